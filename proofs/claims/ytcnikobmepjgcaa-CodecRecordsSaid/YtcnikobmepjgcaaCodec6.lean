/-
  Encode and Decode at all types: what a codec's put writes into a new writer, what its get reads out of a new reader.
-/
import Derived.Test.YtcnikobmepjgcaaCodec5
namespace Go.Proofs.Ytcnikobmepjgcaa.Codec
open Go.RowKit Go.Proofs.YtcnikobmepjgcaaBase Go.Proofs.YtcnikobmepjgcaaLex2 Go.Proofs.YtcnikobmepjgcaaNum
set_option linter.unusedVariables false
set_option linter.unusedSimpArgs false

def encR {α : Type} (c : Cod α) (x : α) : ByteArray × Int :=
  let s := c.put x ⟨[], 0⟩
  if s.err = 0 then (⟨s.out.toArray⟩, 0) else (⟨#[]⟩, s.err)
def decE {α : Type} (c : Cod α) (d : ByteArray) : Int :=
  let s := (c.get ⟨d.data.toList, 0⟩).2
  (if s.rest = [] then s else s.fail 21).err

theorem enc_start {α : Type} {W w : World} {pv gv : Value} {c : Cod α} {t : TypeId} {x : α} {v : Value} (hs : Same W w) (hv : c.rep (fun k => k < w.heap.size) w x v) (hf : Fair c) :
    let w2 := (w.alloc (.cells #[pv, gv] t)).alloc (.cells #[.slice none 0 0, .int .i64 0] 128)
    Same W w2 ∧ WriterAt w.heap.size w2 (w.heap.size + 1) (fun k => k = w.heap.size + 1) ⟨[], 0⟩ ∧ c.rep (fun k => k < w.heap.size) w2 x v ∧ Kept w w2 (fun _ => False) := by
  intro w2
  have hk : Kept w w2 (fun _ => False) := ((Kept.refl w _).alloc _).alloc _
  refine ⟨hs.kept hk (fun _ h => h.elim), ⟨.slice none 0 0, heap_alloc2_new _ _ _, by omega, ?_, World.ownsRow_nil _ _ _ _, ?_⟩, hf.keep hv (fun k hk1 _ => hk.block k hk1 (fun h => h)), hk⟩
  · exact hk.size
  · intro k; simp [Value.ownBlock]

set_option maxHeartbeats 1600000 in
theorem encode_int {α : Type} (W : World) (cv : Value) (c : Cod α) (x : α) (v : Value) (w : World) (hc : IsCodec W cv c) (hf : Fair c) (hs : Same W w) (hv : c.rep (fun k => k < w.heap.size) w x v) (hr : WRoom ⟨[], 0⟩ (c.cost x)) :
    Calls Try.prog 15 #[cv, v] w fun r w' => r = .returned (.tuple #[.string (encR c x).1, .int .i64 (encR c x).2]) ∧ Kept w w' (fun _ => False) := by
  obtain ⟨pv, gv, rfl, ⟨f, caps, rfl, he, hp⟩, _⟩ := hc
  obtain ⟨s1, s2, s3, s4⟩ := enc_start (pv := .func (.func f) #[] caps) (gv := gv) (t := 34) hs hv hf
  unfold Proofs.Enters at he
  have P := hp _ _ _ _ _ _ _ hs.1 s1 s3 s2 hr
  obtain ⟨s', hs'⟩ : ∃ s', c.put x ⟨[], 0⟩ = s' := ⟨_, rfl⟩
  have HE : Hid (encR c x = if s'.err = 0 then (⟨s'.out.toArray⟩, 0) else (⟨#[]⟩, s'.err)) := by rw [← hs']; exact Lib.hid rfl
  rw [hs'] at P
  have PP := Lib.hid P
  have K4 := Lib.hid s4
  clear hp hs hv hf hr s1 s2 s3 s4 hs' P
  go_enter Try.func15, Try.ntmps15
  go_wp2_with (fail)
  refine PP.out.mono ?_
  rintro e w3 ⟨rfl, hm⟩
  obtain ⟨F', ⟨sv, hb, hp, hbs, ho, hF⟩, _, hk⟩ := hm
  have c0 := cellOf (j := 0) hb
  have c1 := cellOf (j := 1) hb
  simp at c0 c1
  have qc := run_convert_own (P := Try.prog) w3 24 9 5 w.heap.size _ sv s'.out elemByte.under underU8 underStr ho
  have KK := Lib.hid hk
  clear hb hp hbs ho hF hk
  by_cases herr : s'.err = 0
  · have HE' := Lib.hid herr
    rw [herr] at c1
    clear herr
    go_wp2
    go_ret2
    rw [HE.out, if_pos HE'.out]
    exact ⟨rfl, K4.out.trans KK.out fun k hk => .inr (by omega)⟩
  · have q0 : (s'.err == 0) = false := by simpa using herr
    have q1 : decide (s'.err = 0) = false := by simpa using herr
    have HE' := Lib.hid herr
    obtain ⟨er, hee⟩ : ∃ er, s'.err = er := ⟨_, rfl⟩
    rw [hee] at q0 q1 c1
    have HEE := Lib.hid hee
    clear herr hee qc c0
    go_wp2
    go_quiet (fail)
    go_wp2
    go_ret2
    rw [HE.out, if_neg HE'.out, HEE.out]
    exact ⟨rfl, (K4.out.trans KK.out fun k hk => .inr (by omega)).drewN _⟩

set_option maxHeartbeats 1600000 in
theorem encode_ints {α : Type} (W : World) (cv : Value) (c : Cod α) (x : α) (v : Value) (w : World) (hc : IsCodec W cv c) (hf : Fair c) (hs : Same W w) (hv : c.rep (fun k => k < w.heap.size) w x v) (hr : WRoom ⟨[], 0⟩ (c.cost x)) :
    Calls Try.prog 17 #[cv, v] w fun r w' => r = .returned (.tuple #[.string (encR c x).1, .int .i64 (encR c x).2]) ∧ Kept w w' (fun _ => False) := by
  obtain ⟨pv, gv, rfl, ⟨f, caps, rfl, he, hp⟩, _⟩ := hc
  obtain ⟨s1, s2, s3, s4⟩ := enc_start (pv := .func (.func f) #[] caps) (gv := gv) (t := 40) hs hv hf
  unfold Proofs.Enters at he
  have P := hp _ _ _ _ _ _ _ hs.1 s1 s3 s2 hr
  obtain ⟨s', hs'⟩ : ∃ s', c.put x ⟨[], 0⟩ = s' := ⟨_, rfl⟩
  have HE : Hid (encR c x = if s'.err = 0 then (⟨s'.out.toArray⟩, 0) else (⟨#[]⟩, s'.err)) := by rw [← hs']; exact Lib.hid rfl
  rw [hs'] at P
  have PP := Lib.hid P
  have K4 := Lib.hid s4
  clear hp hs hv hf hr s1 s2 s3 s4 hs' P
  go_enter Try.func17, Try.ntmps17
  go_wp2_with (fail)
  refine PP.out.mono ?_
  rintro e w3 ⟨rfl, hm⟩
  obtain ⟨F', ⟨sv, hb, hp, hbs, ho, hF⟩, _, hk⟩ := hm
  have c0 := cellOf (j := 0) hb
  have c1 := cellOf (j := 1) hb
  simp at c0 c1
  have qc := run_convert_own (P := Try.prog) w3 24 9 5 w.heap.size _ sv s'.out elemByte.under underU8 underStr ho
  have KK := Lib.hid hk
  clear hb hp hbs ho hF hk
  by_cases herr : s'.err = 0
  · have HE' := Lib.hid herr
    rw [herr] at c1
    clear herr
    go_wp2
    go_ret2
    rw [HE.out, if_pos HE'.out]
    exact ⟨rfl, K4.out.trans KK.out fun k hk => .inr (by omega)⟩
  · have q0 : (s'.err == 0) = false := by simpa using herr
    have q1 : decide (s'.err = 0) = false := by simpa using herr
    have HE' := Lib.hid herr
    obtain ⟨er, hee⟩ : ∃ er, s'.err = er := ⟨_, rfl⟩
    rw [hee] at q0 q1 c1
    have HEE := Lib.hid hee
    clear herr hee qc c0
    go_wp2
    go_quiet (fail)
    go_wp2
    go_ret2
    rw [HE.out, if_neg HE'.out, HEE.out]
    exact ⟨rfl, (K4.out.trans KK.out fun k hk => .inr (by omega)).drewN _⟩

set_option maxHeartbeats 1600000 in
theorem encode_strss {α : Type} (W : World) (cv : Value) (c : Cod α) (x : α) (v : Value) (w : World) (hc : IsCodec W cv c) (hf : Fair c) (hs : Same W w) (hv : c.rep (fun k => k < w.heap.size) w x v) (hr : WRoom ⟨[], 0⟩ (c.cost x)) :
    Calls Try.prog 26 #[cv, v] w fun r w' => r = .returned (.tuple #[.string (encR c x).1, .int .i64 (encR c x).2]) ∧ Kept w w' (fun _ => False) := by
  obtain ⟨pv, gv, rfl, ⟨f, caps, rfl, he, hp⟩, _⟩ := hc
  obtain ⟨s1, s2, s3, s4⟩ := enc_start (pv := .func (.func f) #[] caps) (gv := gv) (t := 53) hs hv hf
  unfold Proofs.Enters at he
  have P := hp _ _ _ _ _ _ _ hs.1 s1 s3 s2 hr
  obtain ⟨s', hs'⟩ : ∃ s', c.put x ⟨[], 0⟩ = s' := ⟨_, rfl⟩
  have HE : Hid (encR c x = if s'.err = 0 then (⟨s'.out.toArray⟩, 0) else (⟨#[]⟩, s'.err)) := by rw [← hs']; exact Lib.hid rfl
  rw [hs'] at P
  have PP := Lib.hid P
  have K4 := Lib.hid s4
  clear hp hs hv hf hr s1 s2 s3 s4 hs' P
  go_enter Try.func26, Try.ntmps26
  go_wp2_with (fail)
  refine PP.out.mono ?_
  rintro e w3 ⟨rfl, hm⟩
  obtain ⟨F', ⟨sv, hb, hp, hbs, ho, hF⟩, _, hk⟩ := hm
  have c0 := cellOf (j := 0) hb
  have c1 := cellOf (j := 1) hb
  simp at c0 c1
  have qc := run_convert_own (P := Try.prog) w3 24 9 5 w.heap.size _ sv s'.out elemByte.under underU8 underStr ho
  have KK := Lib.hid hk
  clear hb hp hbs ho hF hk
  by_cases herr : s'.err = 0
  · have HE' := Lib.hid herr
    rw [herr] at c1
    clear herr
    go_wp2
    go_ret2
    rw [HE.out, if_pos HE'.out]
    exact ⟨rfl, K4.out.trans KK.out fun k hk => .inr (by omega)⟩
  · have q0 : (s'.err == 0) = false := by simpa using herr
    have q1 : decide (s'.err = 0) = false := by simpa using herr
    have HE' := Lib.hid herr
    obtain ⟨er, hee⟩ : ∃ er, s'.err = er := ⟨_, rfl⟩
    rw [hee] at q0 q1 c1
    have HEE := Lib.hid hee
    clear herr hee qc c0
    go_wp2
    go_quiet (fail)
    go_wp2
    go_ret2
    rw [HE.out, if_neg HE'.out, HEE.out]
    exact ⟨rfl, (K4.out.trans KK.out fun k hk => .inr (by omega)).drewN _⟩

set_option maxHeartbeats 1600000 in
theorem encode_bool {α : Type} (W : World) (cv : Value) (c : Cod α) (x : α) (v : Value) (w : World) (hc : IsCodec W cv c) (hf : Fair c) (hs : Same W w) (hv : c.rep (fun k => k < w.heap.size) w x v) (hr : WRoom ⟨[], 0⟩ (c.cost x)) :
    Calls Try.prog 51 #[cv, v] w fun r w' => r = .returned (.tuple #[.string (encR c x).1, .int .i64 (encR c x).2]) ∧ Kept w w' (fun _ => False) := by
  obtain ⟨pv, gv, rfl, ⟨f, caps, rfl, he, hp⟩, _⟩ := hc
  obtain ⟨s1, s2, s3, s4⟩ := enc_start (pv := .func (.func f) #[] caps) (gv := gv) (t := 78) hs hv hf
  unfold Proofs.Enters at he
  have P := hp _ _ _ _ _ _ _ hs.1 s1 s3 s2 hr
  obtain ⟨s', hs'⟩ : ∃ s', c.put x ⟨[], 0⟩ = s' := ⟨_, rfl⟩
  have HE : Hid (encR c x = if s'.err = 0 then (⟨s'.out.toArray⟩, 0) else (⟨#[]⟩, s'.err)) := by rw [← hs']; exact Lib.hid rfl
  rw [hs'] at P
  have PP := Lib.hid P
  have K4 := Lib.hid s4
  clear hp hs hv hf hr s1 s2 s3 s4 hs' P
  go_enter Try.func51, Try.ntmps51
  go_wp2_with (fail)
  refine PP.out.mono ?_
  rintro e w3 ⟨rfl, hm⟩
  obtain ⟨F', ⟨sv, hb, hp, hbs, ho, hF⟩, _, hk⟩ := hm
  have c0 := cellOf (j := 0) hb
  have c1 := cellOf (j := 1) hb
  simp at c0 c1
  have qc := run_convert_own (P := Try.prog) w3 24 9 5 w.heap.size _ sv s'.out elemByte.under underU8 underStr ho
  have KK := Lib.hid hk
  clear hb hp hbs ho hF hk
  by_cases herr : s'.err = 0
  · have HE' := Lib.hid herr
    rw [herr] at c1
    clear herr
    go_wp2
    go_ret2
    rw [HE.out, if_pos HE'.out]
    exact ⟨rfl, K4.out.trans KK.out fun k hk => .inr (by omega)⟩
  · have q0 : (s'.err == 0) = false := by simpa using herr
    have q1 : decide (s'.err = 0) = false := by simpa using herr
    have HE' := Lib.hid herr
    obtain ⟨er, hee⟩ : ∃ er, s'.err = er := ⟨_, rfl⟩
    rw [hee] at q0 q1 c1
    have HEE := Lib.hid hee
    clear herr hee qc c0
    go_wp2
    go_quiet (fail)
    go_wp2
    go_ret2
    rw [HE.out, if_neg HE'.out, HEE.out]
    exact ⟨rfl, (K4.out.trans KK.out fun k hk => .inr (by omega)).drewN _⟩

set_option maxHeartbeats 1600000 in
theorem encode_str {α : Type} (W : World) (cv : Value) (c : Cod α) (x : α) (v : Value) (w : World) (hc : IsCodec W cv c) (hf : Fair c) (hs : Same W w) (hv : c.rep (fun k => k < w.heap.size) w x v) (hr : WRoom ⟨[], 0⟩ (c.cost x)) :
    Calls Try.prog 40 #[cv, v] w fun r w' => r = .returned (.tuple #[.string (encR c x).1, .int .i64 (encR c x).2]) ∧ Kept w w' (fun _ => False) := by
  obtain ⟨pv, gv, rfl, ⟨f, caps, rfl, he, hp⟩, _⟩ := hc
  obtain ⟨s1, s2, s3, s4⟩ := enc_start (pv := .func (.func f) #[] caps) (gv := gv) (t := 64) hs hv hf
  unfold Proofs.Enters at he
  have P := hp _ _ _ _ _ _ _ hs.1 s1 s3 s2 hr
  obtain ⟨s', hs'⟩ : ∃ s', c.put x ⟨[], 0⟩ = s' := ⟨_, rfl⟩
  have HE : Hid (encR c x = if s'.err = 0 then (⟨s'.out.toArray⟩, 0) else (⟨#[]⟩, s'.err)) := by rw [← hs']; exact Lib.hid rfl
  rw [hs'] at P
  have PP := Lib.hid P
  have K4 := Lib.hid s4
  clear hp hs hv hf hr s1 s2 s3 s4 hs' P
  go_enter Try.func40, Try.ntmps40
  go_wp2_with (fail)
  refine PP.out.mono ?_
  rintro e w3 ⟨rfl, hm⟩
  obtain ⟨F', ⟨sv, hb, hp, hbs, ho, hF⟩, _, hk⟩ := hm
  have c0 := cellOf (j := 0) hb
  have c1 := cellOf (j := 1) hb
  simp at c0 c1
  have qc := run_convert_own (P := Try.prog) w3 24 9 5 w.heap.size _ sv s'.out elemByte.under underU8 underStr ho
  have KK := Lib.hid hk
  clear hb hp hbs ho hF hk
  by_cases herr : s'.err = 0
  · have HE' := Lib.hid herr
    rw [herr] at c1
    clear herr
    go_wp2
    go_ret2
    rw [HE.out, if_pos HE'.out]
    exact ⟨rfl, K4.out.trans KK.out fun k hk => .inr (by omega)⟩
  · have q0 : (s'.err == 0) = false := by simpa using herr
    have q1 : decide (s'.err = 0) = false := by simpa using herr
    have HE' := Lib.hid herr
    obtain ⟨er, hee⟩ : ∃ er, s'.err = er := ⟨_, rfl⟩
    rw [hee] at q0 q1 c1
    have HEE := Lib.hid hee
    clear herr hee qc c0
    go_wp2
    go_quiet (fail)
    go_wp2
    go_ret2
    rw [HE.out, if_neg HE'.out, HEE.out]
    exact ⟨rfl, (K4.out.trans KK.out fun k hk => .inr (by omega)).drewN _⟩

set_option maxHeartbeats 1600000 in
theorem encode_strs {α : Type} (W : World) (cv : Value) (c : Cod α) (x : α) (v : Value) (w : World) (hc : IsCodec W cv c) (hf : Fair c) (hs : Same W w) (hv : c.rep (fun k => k < w.heap.size) w x v) (hr : WRoom ⟨[], 0⟩ (c.cost x)) :
    Calls Try.prog 39 #[cv, v] w fun r w' => r = .returned (.tuple #[.string (encR c x).1, .int .i64 (encR c x).2]) ∧ Kept w w' (fun _ => False) := by
  obtain ⟨pv, gv, rfl, ⟨f, caps, rfl, he, hp⟩, _⟩ := hc
  obtain ⟨s1, s2, s3, s4⟩ := enc_start (pv := .func (.func f) #[] caps) (gv := gv) (t := 59) hs hv hf
  unfold Proofs.Enters at he
  have P := hp _ _ _ _ _ _ _ hs.1 s1 s3 s2 hr
  obtain ⟨s', hs'⟩ : ∃ s', c.put x ⟨[], 0⟩ = s' := ⟨_, rfl⟩
  have HE : Hid (encR c x = if s'.err = 0 then (⟨s'.out.toArray⟩, 0) else (⟨#[]⟩, s'.err)) := by rw [← hs']; exact Lib.hid rfl
  rw [hs'] at P
  have PP := Lib.hid P
  have K4 := Lib.hid s4
  clear hp hs hv hf hr s1 s2 s3 s4 hs' P
  go_enter Try.func39, Try.ntmps39
  go_wp2_with (fail)
  refine PP.out.mono ?_
  rintro e w3 ⟨rfl, hm⟩
  obtain ⟨F', ⟨sv, hb, hp, hbs, ho, hF⟩, _, hk⟩ := hm
  have c0 := cellOf (j := 0) hb
  have c1 := cellOf (j := 1) hb
  simp at c0 c1
  have qc := run_convert_own (P := Try.prog) w3 24 9 5 w.heap.size _ sv s'.out elemByte.under underU8 underStr ho
  have KK := Lib.hid hk
  clear hb hp hbs ho hF hk
  by_cases herr : s'.err = 0
  · have HE' := Lib.hid herr
    rw [herr] at c1
    clear herr
    go_wp2
    go_ret2
    rw [HE.out, if_pos HE'.out]
    exact ⟨rfl, K4.out.trans KK.out fun k hk => .inr (by omega)⟩
  · have q0 : (s'.err == 0) = false := by simpa using herr
    have q1 : decide (s'.err = 0) = false := by simpa using herr
    have HE' := Lib.hid herr
    obtain ⟨er, hee⟩ : ∃ er, s'.err = er := ⟨_, rfl⟩
    rw [hee] at q0 q1 c1
    have HEE := Lib.hid hee
    clear herr hee qc c0
    go_wp2
    go_quiet (fail)
    go_wp2
    go_ret2
    rw [HE.out, if_neg HE'.out, HEE.out]
    exact ⟨rfl, (K4.out.trans KK.out fun k hk => .inr (by omega)).drewN _⟩

set_option maxHeartbeats 1600000 in
theorem encode_bools {α : Type} (W : World) (cv : Value) (c : Cod α) (x : α) (v : Value) (w : World) (hc : IsCodec W cv c) (hf : Fair c) (hs : Same W w) (hv : c.rep (fun k => k < w.heap.size) w x v) (hr : WRoom ⟨[], 0⟩ (c.cost x)) :
    Calls Try.prog 37 #[cv, v] w fun r w' => r = .returned (.tuple #[.string (encR c x).1, .int .i64 (encR c x).2]) ∧ Kept w w' (fun _ => False) := by
  obtain ⟨pv, gv, rfl, ⟨f, caps, rfl, he, hp⟩, _⟩ := hc
  obtain ⟨s1, s2, s3, s4⟩ := enc_start (pv := .func (.func f) #[] caps) (gv := gv) (t := 95) hs hv hf
  unfold Proofs.Enters at he
  have P := hp _ _ _ _ _ _ _ hs.1 s1 s3 s2 hr
  obtain ⟨s', hs'⟩ : ∃ s', c.put x ⟨[], 0⟩ = s' := ⟨_, rfl⟩
  have HE : Hid (encR c x = if s'.err = 0 then (⟨s'.out.toArray⟩, 0) else (⟨#[]⟩, s'.err)) := by rw [← hs']; exact Lib.hid rfl
  rw [hs'] at P
  have PP := Lib.hid P
  have K4 := Lib.hid s4
  clear hp hs hv hf hr s1 s2 s3 s4 hs' P
  go_enter Try.func37, Try.ntmps37
  go_wp2_with (fail)
  refine PP.out.mono ?_
  rintro e w3 ⟨rfl, hm⟩
  obtain ⟨F', ⟨sv, hb, hp, hbs, ho, hF⟩, _, hk⟩ := hm
  have c0 := cellOf (j := 0) hb
  have c1 := cellOf (j := 1) hb
  simp at c0 c1
  have qc := run_convert_own (P := Try.prog) w3 24 9 5 w.heap.size _ sv s'.out elemByte.under underU8 underStr ho
  have KK := Lib.hid hk
  clear hb hp hbs ho hF hk
  by_cases herr : s'.err = 0
  · have HE' := Lib.hid herr
    rw [herr] at c1
    clear herr
    go_wp2
    go_ret2
    rw [HE.out, if_pos HE'.out]
    exact ⟨rfl, K4.out.trans KK.out fun k hk => .inr (by omega)⟩
  · have q0 : (s'.err == 0) = false := by simpa using herr
    have q1 : decide (s'.err = 0) = false := by simpa using herr
    have HE' := Lib.hid herr
    obtain ⟨er, hee⟩ : ∃ er, s'.err = er := ⟨_, rfl⟩
    rw [hee] at q0 q1 c1
    have HEE := Lib.hid hee
    clear herr hee qc c0
    go_wp2
    go_quiet (fail)
    go_wp2
    go_ret2
    rw [HE.out, if_neg HE'.out, HEE.out]
    exact ⟨rfl, (K4.out.trans KK.out fun k hk => .inr (by omega)).drewN _⟩

theorem dec_start {W w : World} {pv gv : Value} {t : TypeId} {d : ByteArray} (hs : Same W w) :
    let w2 := (w.alloc (.cells #[pv, gv] t)).alloc (.cells #[.string d, .int .i64 0, .int .i64 0] 133)
    Same W w2 ∧ ReaderAt w2 (w.heap.size + 1) d ⟨d.data.toList, 0⟩ ∧ Kept w w2 (fun _ => False) := by
  intro w2
  have hk : Kept w w2 (fun _ => False) := ((Kept.refl w _).alloc _).alloc _
  exact ⟨hs.kept hk (fun _ h => h.elim), ⟨0, heap_alloc2_new _ _ _, Nat.zero_le _, rfl⟩, hk⟩

set_option maxHeartbeats 1600000 in
theorem decode_int {α : Type} (W : World) (cv : Value) (c : Cod α) (d : ByteArray) (w : World) (hc : IsCodec W cv c) (hf : Fair c) (hs : Same W w) (hd : DSize d) :
    Calls Try.prog 19 #[cv, .string d] w fun r w' => Kept w w' (fun _ => False) ∧ ((decE c d ≠ 0 ∧ r = .returned (.tuple #[(.int .i64 0), .int .i64 (decE c d)])) ∨
      (decE c d = 0 ∧ ∃ v, r = .returned (.tuple #[v, .int .i64 0]) ∧ c.rep (fun k => w.heap.size ≤ k ∧ k < w'.heap.size) w' (c.get ⟨d.data.toList, 0⟩).1 v)) := by
  obtain ⟨pv, gv, rfl, _, ⟨f, caps, rfl, he, hp⟩⟩ := hc
  unfold Proofs.Enters at he
  obtain ⟨s1, s2, s4⟩ := dec_start (pv := pv) (gv := .func (.func f) #[] caps) (t := 34) (d := d) hs
  have P := hp _ _ _ _ (Nat.le_succ_of_le hs.1) s1 s2 hd
  obtain ⟨x, s', hs'⟩ : ∃ x s', c.get ⟨d.data.toList, 0⟩ = (x, s') := ⟨_, _, rfl⟩
  have HE : Hid (decE c d = (if s'.rest = [] then s' else s'.fail 21).err) := by unfold decE; rw [hs']; exact Lib.hid rfl
  rw [hs'] at P ⊢
  have PP := Lib.hid P
  have K4 := Lib.hid s4
  have HF := Lib.hid hf
  clear hp hs hf s1 s2 s4 hs' P hd
  go_enter Try.func19, Try.ntmps19
  go_wp2_with (fail)
  refine PP.out.mono ?_
  rintro e w3 ⟨v, rfl, hm, hv⟩
  have hm' := hm
  obtain ⟨⟨a, hb, ha, hr⟩, hk⟩ := hm'
  have c1 := cellOf (j := 1) hb
  have c2 := cellOf (j := 2) hb
  simp at c1 c2
  have KK := Lib.hid (K4.out.trans hk fun k hk => .inr (by omega))
  have HM := Lib.hid hm
  have HV : Hid (c.rep (fun k => w.heap.size ≤ k ∧ k < w3.heap.size) w3 x v) := Lib.hid (HF.out.mono (fun k hk => ⟨by have := hk.1; simp at this; omega, hk.2⟩) hv)
  have hl : s'.rest = [] ↔ a = d.size := by
    rw [hr, ← List.length_eq_zero_iff, List.length_drop, len_data]
    omega
  have HL := Lib.hid hl
  clear hm hv hk hr hl hb
  by_cases ha2 : a = d.size
  · have hrest := HL.out.2 ha2
    have q1 : ¬ (a : Int) < d.size := by omega
    by_cases herr : s'.err = 0
    · have e1 : decE c d = 0 := by rw [HE.out, if_pos hrest, herr]
      have E1 := Lib.hid e1
      rw [herr] at c2
      clear e1 herr hrest ha2
      go_wp2
      go_ret2
      exact ⟨KK.out, .inr ⟨E1.out, v, rfl, HV.out⟩⟩
    · have e1 : decE c d = s'.err := by rw [HE.out, if_pos hrest]
      have e2 : decE c d ≠ 0 := by rw [e1]; exact herr
      have q2 : (s'.err == 0) = false := by simpa using herr
      have q3 : decide (s'.err = 0) = false := by simpa using herr
      have E1 := Lib.hid e1
      have E2 := Lib.hid e2
      clear e1 e2 herr hrest ha2
      go_wp2
      go_quiet (fail)
      go_wp2
      go_ret2
      refine ⟨KK.out.drewN _, .inl ⟨E2.out, ?_⟩⟩
      rw [E1.out]; rfl
  · have hrest : s'.rest ≠ [] := fun h => ha2 (HL.out.1 h)
    have q1 : (a : Int) < d.size := by omega
    have e1 : decE c d = (s'.fail 21).err := by rw [HE.out, if_neg hrest]
    have e2 : (s'.fail 21).err ≠ 0 := by unfold RS.fail; split <;> simp_all
    have q2 : ((s'.fail 21).err == 0) = false := by simpa using e2
    have q3 : decide ((s'.fail 21).err = 0) = false := by simpa using e2
    have E1 := Lib.hid e1
    have E2 := Lib.hid e2
    clear e1 e2 hrest ha2
    go_wp2_with (fail)
    refine (rfail_any _ d _ 21 _ HM.out.1).mono ?_
    rintro e w4 ⟨rfl, hm4⟩
    have k2 := hm4.1.err
    have KK4 := Lib.hid (KK.out.trans hm4.2 fun k hk => .inr (by omega))
    clear hm4
    go_wp2
    go_quiet (fail)
    go_wp2
    go_ret2
    refine ⟨KK4.out.drewN _, .inl ⟨by rw [E1.out]; exact E2.out, ?_⟩⟩
    rw [E1.out]; rfl

set_option maxHeartbeats 1600000 in
theorem decode_ints {α : Type} (W : World) (cv : Value) (c : Cod α) (d : ByteArray) (w : World) (hc : IsCodec W cv c) (hf : Fair c) (hs : Same W w) (hd : DSize d) :
    Calls Try.prog 20 #[cv, .string d] w fun r w' => Kept w w' (fun _ => False) ∧ ((decE c d ≠ 0 ∧ r = .returned (.tuple #[(.slice none 0 0), .int .i64 (decE c d)])) ∨
      (decE c d = 0 ∧ ∃ v, r = .returned (.tuple #[v, .int .i64 0]) ∧ c.rep (fun k => w.heap.size ≤ k ∧ k < w'.heap.size) w' (c.get ⟨d.data.toList, 0⟩).1 v)) := by
  obtain ⟨pv, gv, rfl, _, ⟨f, caps, rfl, he, hp⟩⟩ := hc
  unfold Proofs.Enters at he
  obtain ⟨s1, s2, s4⟩ := dec_start (pv := pv) (gv := .func (.func f) #[] caps) (t := 40) (d := d) hs
  have P := hp _ _ _ _ (Nat.le_succ_of_le hs.1) s1 s2 hd
  obtain ⟨x, s', hs'⟩ : ∃ x s', c.get ⟨d.data.toList, 0⟩ = (x, s') := ⟨_, _, rfl⟩
  have HE : Hid (decE c d = (if s'.rest = [] then s' else s'.fail 21).err) := by unfold decE; rw [hs']; exact Lib.hid rfl
  rw [hs'] at P ⊢
  have PP := Lib.hid P
  have K4 := Lib.hid s4
  have HF := Lib.hid hf
  clear hp hs hf s1 s2 s4 hs' P hd
  go_enter Try.func20, Try.ntmps20
  go_wp2_with (fail)
  refine PP.out.mono ?_
  rintro e w3 ⟨v, rfl, hm, hv⟩
  have hm' := hm
  obtain ⟨⟨a, hb, ha, hr⟩, hk⟩ := hm'
  have c1 := cellOf (j := 1) hb
  have c2 := cellOf (j := 2) hb
  simp at c1 c2
  have KK := Lib.hid (K4.out.trans hk fun k hk => .inr (by omega))
  have HM := Lib.hid hm
  have HV : Hid (c.rep (fun k => w.heap.size ≤ k ∧ k < w3.heap.size) w3 x v) := Lib.hid (HF.out.mono (fun k hk => ⟨by have := hk.1; simp at this; omega, hk.2⟩) hv)
  have hl : s'.rest = [] ↔ a = d.size := by
    rw [hr, ← List.length_eq_zero_iff, List.length_drop, len_data]
    omega
  have HL := Lib.hid hl
  clear hm hv hk hr hl hb
  by_cases ha2 : a = d.size
  · have hrest := HL.out.2 ha2
    have q1 : ¬ (a : Int) < d.size := by omega
    by_cases herr : s'.err = 0
    · have e1 : decE c d = 0 := by rw [HE.out, if_pos hrest, herr]
      have E1 := Lib.hid e1
      rw [herr] at c2
      clear e1 herr hrest ha2
      go_wp2
      go_ret2
      exact ⟨KK.out, .inr ⟨E1.out, v, rfl, HV.out⟩⟩
    · have e1 : decE c d = s'.err := by rw [HE.out, if_pos hrest]
      have e2 : decE c d ≠ 0 := by rw [e1]; exact herr
      have q2 : (s'.err == 0) = false := by simpa using herr
      have q3 : decide (s'.err = 0) = false := by simpa using herr
      have E1 := Lib.hid e1
      have E2 := Lib.hid e2
      clear e1 e2 herr hrest ha2
      go_wp2
      go_quiet (fail)
      go_wp2
      go_ret2
      refine ⟨KK.out.drewN _, .inl ⟨E2.out, ?_⟩⟩
      rw [E1.out]; rfl
  · have hrest : s'.rest ≠ [] := fun h => ha2 (HL.out.1 h)
    have q1 : (a : Int) < d.size := by omega
    have e1 : decE c d = (s'.fail 21).err := by rw [HE.out, if_neg hrest]
    have e2 : (s'.fail 21).err ≠ 0 := by unfold RS.fail; split <;> simp_all
    have q2 : ((s'.fail 21).err == 0) = false := by simpa using e2
    have q3 : decide ((s'.fail 21).err = 0) = false := by simpa using e2
    have E1 := Lib.hid e1
    have E2 := Lib.hid e2
    clear e1 e2 hrest ha2
    go_wp2_with (fail)
    refine (rfail_any _ d _ 21 _ HM.out.1).mono ?_
    rintro e w4 ⟨rfl, hm4⟩
    have k2 := hm4.1.err
    have KK4 := Lib.hid (KK.out.trans hm4.2 fun k hk => .inr (by omega))
    clear hm4
    go_wp2
    go_quiet (fail)
    go_wp2
    go_ret2
    refine ⟨KK4.out.drewN _, .inl ⟨by rw [E1.out]; exact E2.out, ?_⟩⟩
    rw [E1.out]; rfl

set_option maxHeartbeats 1600000 in
theorem decode_strss {α : Type} (W : World) (cv : Value) (c : Cod α) (d : ByteArray) (w : World) (hc : IsCodec W cv c) (hf : Fair c) (hs : Same W w) (hd : DSize d) :
    Calls Try.prog 25 #[cv, .string d] w fun r w' => Kept w w' (fun _ => False) ∧ ((decE c d ≠ 0 ∧ r = .returned (.tuple #[(.slice none 0 0), .int .i64 (decE c d)])) ∨
      (decE c d = 0 ∧ ∃ v, r = .returned (.tuple #[v, .int .i64 0]) ∧ c.rep (fun k => w.heap.size ≤ k ∧ k < w'.heap.size) w' (c.get ⟨d.data.toList, 0⟩).1 v)) := by
  obtain ⟨pv, gv, rfl, _, ⟨f, caps, rfl, he, hp⟩⟩ := hc
  unfold Proofs.Enters at he
  obtain ⟨s1, s2, s4⟩ := dec_start (pv := pv) (gv := .func (.func f) #[] caps) (t := 53) (d := d) hs
  have P := hp _ _ _ _ (Nat.le_succ_of_le hs.1) s1 s2 hd
  obtain ⟨x, s', hs'⟩ : ∃ x s', c.get ⟨d.data.toList, 0⟩ = (x, s') := ⟨_, _, rfl⟩
  have HE : Hid (decE c d = (if s'.rest = [] then s' else s'.fail 21).err) := by unfold decE; rw [hs']; exact Lib.hid rfl
  rw [hs'] at P ⊢
  have PP := Lib.hid P
  have K4 := Lib.hid s4
  have HF := Lib.hid hf
  clear hp hs hf s1 s2 s4 hs' P hd
  go_enter Try.func25, Try.ntmps25
  go_wp2_with (fail)
  refine PP.out.mono ?_
  rintro e w3 ⟨v, rfl, hm, hv⟩
  have hm' := hm
  obtain ⟨⟨a, hb, ha, hr⟩, hk⟩ := hm'
  have c1 := cellOf (j := 1) hb
  have c2 := cellOf (j := 2) hb
  simp at c1 c2
  have KK := Lib.hid (K4.out.trans hk fun k hk => .inr (by omega))
  have HM := Lib.hid hm
  have HV : Hid (c.rep (fun k => w.heap.size ≤ k ∧ k < w3.heap.size) w3 x v) := Lib.hid (HF.out.mono (fun k hk => ⟨by have := hk.1; simp at this; omega, hk.2⟩) hv)
  have hl : s'.rest = [] ↔ a = d.size := by
    rw [hr, ← List.length_eq_zero_iff, List.length_drop, len_data]
    omega
  have HL := Lib.hid hl
  clear hm hv hk hr hl hb
  by_cases ha2 : a = d.size
  · have hrest := HL.out.2 ha2
    have q1 : ¬ (a : Int) < d.size := by omega
    by_cases herr : s'.err = 0
    · have e1 : decE c d = 0 := by rw [HE.out, if_pos hrest, herr]
      have E1 := Lib.hid e1
      rw [herr] at c2
      clear e1 herr hrest ha2
      go_wp2
      go_ret2
      exact ⟨KK.out, .inr ⟨E1.out, v, rfl, HV.out⟩⟩
    · have e1 : decE c d = s'.err := by rw [HE.out, if_pos hrest]
      have e2 : decE c d ≠ 0 := by rw [e1]; exact herr
      have q2 : (s'.err == 0) = false := by simpa using herr
      have q3 : decide (s'.err = 0) = false := by simpa using herr
      have E1 := Lib.hid e1
      have E2 := Lib.hid e2
      clear e1 e2 herr hrest ha2
      go_wp2
      go_quiet (fail)
      go_wp2
      go_ret2
      refine ⟨KK.out.drewN _, .inl ⟨E2.out, ?_⟩⟩
      rw [E1.out]; rfl
  · have hrest : s'.rest ≠ [] := fun h => ha2 (HL.out.1 h)
    have q1 : (a : Int) < d.size := by omega
    have e1 : decE c d = (s'.fail 21).err := by rw [HE.out, if_neg hrest]
    have e2 : (s'.fail 21).err ≠ 0 := by unfold RS.fail; split <;> simp_all
    have q2 : ((s'.fail 21).err == 0) = false := by simpa using e2
    have q3 : decide ((s'.fail 21).err = 0) = false := by simpa using e2
    have E1 := Lib.hid e1
    have E2 := Lib.hid e2
    clear e1 e2 hrest ha2
    go_wp2_with (fail)
    refine (rfail_any _ d _ 21 _ HM.out.1).mono ?_
    rintro e w4 ⟨rfl, hm4⟩
    have k2 := hm4.1.err
    have KK4 := Lib.hid (KK.out.trans hm4.2 fun k hk => .inr (by omega))
    clear hm4
    go_wp2
    go_quiet (fail)
    go_wp2
    go_ret2
    refine ⟨KK4.out.drewN _, .inl ⟨by rw [E1.out]; exact E2.out, ?_⟩⟩
    rw [E1.out]; rfl

set_option maxHeartbeats 1600000 in
theorem decode_bool {α : Type} (W : World) (cv : Value) (c : Cod α) (d : ByteArray) (w : World) (hc : IsCodec W cv c) (hf : Fair c) (hs : Same W w) (hd : DSize d) :
    Calls Try.prog 28 #[cv, .string d] w fun r w' => Kept w w' (fun _ => False) ∧ ((decE c d ≠ 0 ∧ r = .returned (.tuple #[(.bool false), .int .i64 (decE c d)])) ∨
      (decE c d = 0 ∧ ∃ v, r = .returned (.tuple #[v, .int .i64 0]) ∧ c.rep (fun k => w.heap.size ≤ k ∧ k < w'.heap.size) w' (c.get ⟨d.data.toList, 0⟩).1 v)) := by
  obtain ⟨pv, gv, rfl, _, ⟨f, caps, rfl, he, hp⟩⟩ := hc
  unfold Proofs.Enters at he
  obtain ⟨s1, s2, s4⟩ := dec_start (pv := pv) (gv := .func (.func f) #[] caps) (t := 78) (d := d) hs
  have P := hp _ _ _ _ (Nat.le_succ_of_le hs.1) s1 s2 hd
  obtain ⟨x, s', hs'⟩ : ∃ x s', c.get ⟨d.data.toList, 0⟩ = (x, s') := ⟨_, _, rfl⟩
  have HE : Hid (decE c d = (if s'.rest = [] then s' else s'.fail 21).err) := by unfold decE; rw [hs']; exact Lib.hid rfl
  rw [hs'] at P ⊢
  have PP := Lib.hid P
  have K4 := Lib.hid s4
  have HF := Lib.hid hf
  clear hp hs hf s1 s2 s4 hs' P hd
  go_enter Try.func28, Try.ntmps28
  go_wp2_with (fail)
  refine PP.out.mono ?_
  rintro e w3 ⟨v, rfl, hm, hv⟩
  have hm' := hm
  obtain ⟨⟨a, hb, ha, hr⟩, hk⟩ := hm'
  have c1 := cellOf (j := 1) hb
  have c2 := cellOf (j := 2) hb
  simp at c1 c2
  have KK := Lib.hid (K4.out.trans hk fun k hk => .inr (by omega))
  have HM := Lib.hid hm
  have HV : Hid (c.rep (fun k => w.heap.size ≤ k ∧ k < w3.heap.size) w3 x v) := Lib.hid (HF.out.mono (fun k hk => ⟨by have := hk.1; simp at this; omega, hk.2⟩) hv)
  have hl : s'.rest = [] ↔ a = d.size := by
    rw [hr, ← List.length_eq_zero_iff, List.length_drop, len_data]
    omega
  have HL := Lib.hid hl
  clear hm hv hk hr hl hb
  by_cases ha2 : a = d.size
  · have hrest := HL.out.2 ha2
    have q1 : ¬ (a : Int) < d.size := by omega
    by_cases herr : s'.err = 0
    · have e1 : decE c d = 0 := by rw [HE.out, if_pos hrest, herr]
      have E1 := Lib.hid e1
      rw [herr] at c2
      clear e1 herr hrest ha2
      go_wp2
      go_ret2
      exact ⟨KK.out, .inr ⟨E1.out, v, rfl, HV.out⟩⟩
    · have e1 : decE c d = s'.err := by rw [HE.out, if_pos hrest]
      have e2 : decE c d ≠ 0 := by rw [e1]; exact herr
      have q2 : (s'.err == 0) = false := by simpa using herr
      have q3 : decide (s'.err = 0) = false := by simpa using herr
      have E1 := Lib.hid e1
      have E2 := Lib.hid e2
      clear e1 e2 herr hrest ha2
      go_wp2
      go_quiet (fail)
      go_wp2
      go_ret2
      refine ⟨KK.out.drewN _, .inl ⟨E2.out, ?_⟩⟩
      rw [E1.out]; rfl
  · have hrest : s'.rest ≠ [] := fun h => ha2 (HL.out.1 h)
    have q1 : (a : Int) < d.size := by omega
    have e1 : decE c d = (s'.fail 21).err := by rw [HE.out, if_neg hrest]
    have e2 : (s'.fail 21).err ≠ 0 := by unfold RS.fail; split <;> simp_all
    have q2 : ((s'.fail 21).err == 0) = false := by simpa using e2
    have q3 : decide ((s'.fail 21).err = 0) = false := by simpa using e2
    have E1 := Lib.hid e1
    have E2 := Lib.hid e2
    clear e1 e2 hrest ha2
    go_wp2_with (fail)
    refine (rfail_any _ d _ 21 _ HM.out.1).mono ?_
    rintro e w4 ⟨rfl, hm4⟩
    have k2 := hm4.1.err
    have KK4 := Lib.hid (KK.out.trans hm4.2 fun k hk => .inr (by omega))
    clear hm4
    go_wp2
    go_quiet (fail)
    go_wp2
    go_ret2
    refine ⟨KK4.out.drewN _, .inl ⟨by rw [E1.out]; exact E2.out, ?_⟩⟩
    rw [E1.out]; rfl

set_option maxHeartbeats 1600000 in
theorem decode_str {α : Type} (W : World) (cv : Value) (c : Cod α) (d : ByteArray) (w : World) (hc : IsCodec W cv c) (hf : Fair c) (hs : Same W w) (hd : DSize d) :
    Calls Try.prog 30 #[cv, .string d] w fun r w' => Kept w w' (fun _ => False) ∧ ((decE c d ≠ 0 ∧ r = .returned (.tuple #[(.string ⟨#[]⟩), .int .i64 (decE c d)])) ∨
      (decE c d = 0 ∧ ∃ v, r = .returned (.tuple #[v, .int .i64 0]) ∧ c.rep (fun k => w.heap.size ≤ k ∧ k < w'.heap.size) w' (c.get ⟨d.data.toList, 0⟩).1 v)) := by
  obtain ⟨pv, gv, rfl, _, ⟨f, caps, rfl, he, hp⟩⟩ := hc
  unfold Proofs.Enters at he
  obtain ⟨s1, s2, s4⟩ := dec_start (pv := pv) (gv := .func (.func f) #[] caps) (t := 64) (d := d) hs
  have P := hp _ _ _ _ (Nat.le_succ_of_le hs.1) s1 s2 hd
  obtain ⟨x, s', hs'⟩ : ∃ x s', c.get ⟨d.data.toList, 0⟩ = (x, s') := ⟨_, _, rfl⟩
  have HE : Hid (decE c d = (if s'.rest = [] then s' else s'.fail 21).err) := by unfold decE; rw [hs']; exact Lib.hid rfl
  rw [hs'] at P ⊢
  have PP := Lib.hid P
  have K4 := Lib.hid s4
  have HF := Lib.hid hf
  clear hp hs hf s1 s2 s4 hs' P hd
  go_enter Try.func30, Try.ntmps30
  go_wp2_with (fail)
  refine PP.out.mono ?_
  rintro e w3 ⟨v, rfl, hm, hv⟩
  have hm' := hm
  obtain ⟨⟨a, hb, ha, hr⟩, hk⟩ := hm'
  have c1 := cellOf (j := 1) hb
  have c2 := cellOf (j := 2) hb
  simp at c1 c2
  have KK := Lib.hid (K4.out.trans hk fun k hk => .inr (by omega))
  have HM := Lib.hid hm
  have HV : Hid (c.rep (fun k => w.heap.size ≤ k ∧ k < w3.heap.size) w3 x v) := Lib.hid (HF.out.mono (fun k hk => ⟨by have := hk.1; simp at this; omega, hk.2⟩) hv)
  have hl : s'.rest = [] ↔ a = d.size := by
    rw [hr, ← List.length_eq_zero_iff, List.length_drop, len_data]
    omega
  have HL := Lib.hid hl
  clear hm hv hk hr hl hb
  by_cases ha2 : a = d.size
  · have hrest := HL.out.2 ha2
    have q1 : ¬ (a : Int) < d.size := by omega
    by_cases herr : s'.err = 0
    · have e1 : decE c d = 0 := by rw [HE.out, if_pos hrest, herr]
      have E1 := Lib.hid e1
      rw [herr] at c2
      clear e1 herr hrest ha2
      go_wp2
      go_ret2
      exact ⟨KK.out, .inr ⟨E1.out, v, rfl, HV.out⟩⟩
    · have e1 : decE c d = s'.err := by rw [HE.out, if_pos hrest]
      have e2 : decE c d ≠ 0 := by rw [e1]; exact herr
      have q2 : (s'.err == 0) = false := by simpa using herr
      have q3 : decide (s'.err = 0) = false := by simpa using herr
      have E1 := Lib.hid e1
      have E2 := Lib.hid e2
      clear e1 e2 herr hrest ha2
      go_wp2
      go_quiet (fail)
      go_wp2
      go_ret2
      refine ⟨KK.out.drewN _, .inl ⟨E2.out, ?_⟩⟩
      rw [E1.out]; rfl
  · have hrest : s'.rest ≠ [] := fun h => ha2 (HL.out.1 h)
    have q1 : (a : Int) < d.size := by omega
    have e1 : decE c d = (s'.fail 21).err := by rw [HE.out, if_neg hrest]
    have e2 : (s'.fail 21).err ≠ 0 := by unfold RS.fail; split <;> simp_all
    have q2 : ((s'.fail 21).err == 0) = false := by simpa using e2
    have q3 : decide ((s'.fail 21).err = 0) = false := by simpa using e2
    have E1 := Lib.hid e1
    have E2 := Lib.hid e2
    clear e1 e2 hrest ha2
    go_wp2_with (fail)
    refine (rfail_any _ d _ 21 _ HM.out.1).mono ?_
    rintro e w4 ⟨rfl, hm4⟩
    have k2 := hm4.1.err
    have KK4 := Lib.hid (KK.out.trans hm4.2 fun k hk => .inr (by omega))
    clear hm4
    go_wp2
    go_quiet (fail)
    go_wp2
    go_ret2
    refine ⟨KK4.out.drewN _, .inl ⟨by rw [E1.out]; exact E2.out, ?_⟩⟩
    rw [E1.out]; rfl

set_option maxHeartbeats 1600000 in
theorem decode_strs {α : Type} (W : World) (cv : Value) (c : Cod α) (d : ByteArray) (w : World) (hc : IsCodec W cv c) (hf : Fair c) (hs : Same W w) (hd : DSize d) :
    Calls Try.prog 33 #[cv, .string d] w fun r w' => Kept w w' (fun _ => False) ∧ ((decE c d ≠ 0 ∧ r = .returned (.tuple #[(.slice none 0 0), .int .i64 (decE c d)])) ∨
      (decE c d = 0 ∧ ∃ v, r = .returned (.tuple #[v, .int .i64 0]) ∧ c.rep (fun k => w.heap.size ≤ k ∧ k < w'.heap.size) w' (c.get ⟨d.data.toList, 0⟩).1 v)) := by
  obtain ⟨pv, gv, rfl, _, ⟨f, caps, rfl, he, hp⟩⟩ := hc
  unfold Proofs.Enters at he
  obtain ⟨s1, s2, s4⟩ := dec_start (pv := pv) (gv := .func (.func f) #[] caps) (t := 59) (d := d) hs
  have P := hp _ _ _ _ (Nat.le_succ_of_le hs.1) s1 s2 hd
  obtain ⟨x, s', hs'⟩ : ∃ x s', c.get ⟨d.data.toList, 0⟩ = (x, s') := ⟨_, _, rfl⟩
  have HE : Hid (decE c d = (if s'.rest = [] then s' else s'.fail 21).err) := by unfold decE; rw [hs']; exact Lib.hid rfl
  rw [hs'] at P ⊢
  have PP := Lib.hid P
  have K4 := Lib.hid s4
  have HF := Lib.hid hf
  clear hp hs hf s1 s2 s4 hs' P hd
  go_enter Try.func33, Try.ntmps33
  go_wp2_with (fail)
  refine PP.out.mono ?_
  rintro e w3 ⟨v, rfl, hm, hv⟩
  have hm' := hm
  obtain ⟨⟨a, hb, ha, hr⟩, hk⟩ := hm'
  have c1 := cellOf (j := 1) hb
  have c2 := cellOf (j := 2) hb
  simp at c1 c2
  have KK := Lib.hid (K4.out.trans hk fun k hk => .inr (by omega))
  have HM := Lib.hid hm
  have HV : Hid (c.rep (fun k => w.heap.size ≤ k ∧ k < w3.heap.size) w3 x v) := Lib.hid (HF.out.mono (fun k hk => ⟨by have := hk.1; simp at this; omega, hk.2⟩) hv)
  have hl : s'.rest = [] ↔ a = d.size := by
    rw [hr, ← List.length_eq_zero_iff, List.length_drop, len_data]
    omega
  have HL := Lib.hid hl
  clear hm hv hk hr hl hb
  by_cases ha2 : a = d.size
  · have hrest := HL.out.2 ha2
    have q1 : ¬ (a : Int) < d.size := by omega
    by_cases herr : s'.err = 0
    · have e1 : decE c d = 0 := by rw [HE.out, if_pos hrest, herr]
      have E1 := Lib.hid e1
      rw [herr] at c2
      clear e1 herr hrest ha2
      go_wp2
      go_ret2
      exact ⟨KK.out, .inr ⟨E1.out, v, rfl, HV.out⟩⟩
    · have e1 : decE c d = s'.err := by rw [HE.out, if_pos hrest]
      have e2 : decE c d ≠ 0 := by rw [e1]; exact herr
      have q2 : (s'.err == 0) = false := by simpa using herr
      have q3 : decide (s'.err = 0) = false := by simpa using herr
      have E1 := Lib.hid e1
      have E2 := Lib.hid e2
      clear e1 e2 herr hrest ha2
      go_wp2
      go_quiet (fail)
      go_wp2
      go_ret2
      refine ⟨KK.out.drewN _, .inl ⟨E2.out, ?_⟩⟩
      rw [E1.out]; rfl
  · have hrest : s'.rest ≠ [] := fun h => ha2 (HL.out.1 h)
    have q1 : (a : Int) < d.size := by omega
    have e1 : decE c d = (s'.fail 21).err := by rw [HE.out, if_neg hrest]
    have e2 : (s'.fail 21).err ≠ 0 := by unfold RS.fail; split <;> simp_all
    have q2 : ((s'.fail 21).err == 0) = false := by simpa using e2
    have q3 : decide ((s'.fail 21).err = 0) = false := by simpa using e2
    have E1 := Lib.hid e1
    have E2 := Lib.hid e2
    clear e1 e2 hrest ha2
    go_wp2_with (fail)
    refine (rfail_any _ d _ 21 _ HM.out.1).mono ?_
    rintro e w4 ⟨rfl, hm4⟩
    have k2 := hm4.1.err
    have KK4 := Lib.hid (KK.out.trans hm4.2 fun k hk => .inr (by omega))
    clear hm4
    go_wp2
    go_quiet (fail)
    go_wp2
    go_ret2
    refine ⟨KK4.out.drewN _, .inl ⟨by rw [E1.out]; exact E2.out, ?_⟩⟩
    rw [E1.out]; rfl

set_option maxHeartbeats 1600000 in
theorem decode_bools {α : Type} (W : World) (cv : Value) (c : Cod α) (d : ByteArray) (w : World) (hc : IsCodec W cv c) (hf : Fair c) (hs : Same W w) (hd : DSize d) :
    Calls Try.prog 38 #[cv, .string d] w fun r w' => Kept w w' (fun _ => False) ∧ ((decE c d ≠ 0 ∧ r = .returned (.tuple #[(.slice none 0 0), .int .i64 (decE c d)])) ∨
      (decE c d = 0 ∧ ∃ v, r = .returned (.tuple #[v, .int .i64 0]) ∧ c.rep (fun k => w.heap.size ≤ k ∧ k < w'.heap.size) w' (c.get ⟨d.data.toList, 0⟩).1 v)) := by
  obtain ⟨pv, gv, rfl, _, ⟨f, caps, rfl, he, hp⟩⟩ := hc
  unfold Proofs.Enters at he
  obtain ⟨s1, s2, s4⟩ := dec_start (pv := pv) (gv := .func (.func f) #[] caps) (t := 95) (d := d) hs
  have P := hp _ _ _ _ (Nat.le_succ_of_le hs.1) s1 s2 hd
  obtain ⟨x, s', hs'⟩ : ∃ x s', c.get ⟨d.data.toList, 0⟩ = (x, s') := ⟨_, _, rfl⟩
  have HE : Hid (decE c d = (if s'.rest = [] then s' else s'.fail 21).err) := by unfold decE; rw [hs']; exact Lib.hid rfl
  rw [hs'] at P ⊢
  have PP := Lib.hid P
  have K4 := Lib.hid s4
  have HF := Lib.hid hf
  clear hp hs hf s1 s2 s4 hs' P hd
  go_enter Try.func38, Try.ntmps38
  go_wp2_with (fail)
  refine PP.out.mono ?_
  rintro e w3 ⟨v, rfl, hm, hv⟩
  have hm' := hm
  obtain ⟨⟨a, hb, ha, hr⟩, hk⟩ := hm'
  have c1 := cellOf (j := 1) hb
  have c2 := cellOf (j := 2) hb
  simp at c1 c2
  have KK := Lib.hid (K4.out.trans hk fun k hk => .inr (by omega))
  have HM := Lib.hid hm
  have HV : Hid (c.rep (fun k => w.heap.size ≤ k ∧ k < w3.heap.size) w3 x v) := Lib.hid (HF.out.mono (fun k hk => ⟨by have := hk.1; simp at this; omega, hk.2⟩) hv)
  have hl : s'.rest = [] ↔ a = d.size := by
    rw [hr, ← List.length_eq_zero_iff, List.length_drop, len_data]
    omega
  have HL := Lib.hid hl
  clear hm hv hk hr hl hb
  by_cases ha2 : a = d.size
  · have hrest := HL.out.2 ha2
    have q1 : ¬ (a : Int) < d.size := by omega
    by_cases herr : s'.err = 0
    · have e1 : decE c d = 0 := by rw [HE.out, if_pos hrest, herr]
      have E1 := Lib.hid e1
      rw [herr] at c2
      clear e1 herr hrest ha2
      go_wp2
      go_ret2
      exact ⟨KK.out, .inr ⟨E1.out, v, rfl, HV.out⟩⟩
    · have e1 : decE c d = s'.err := by rw [HE.out, if_pos hrest]
      have e2 : decE c d ≠ 0 := by rw [e1]; exact herr
      have q2 : (s'.err == 0) = false := by simpa using herr
      have q3 : decide (s'.err = 0) = false := by simpa using herr
      have E1 := Lib.hid e1
      have E2 := Lib.hid e2
      clear e1 e2 herr hrest ha2
      go_wp2
      go_quiet (fail)
      go_wp2
      go_ret2
      refine ⟨KK.out.drewN _, .inl ⟨E2.out, ?_⟩⟩
      rw [E1.out]; rfl
  · have hrest : s'.rest ≠ [] := fun h => ha2 (HL.out.1 h)
    have q1 : (a : Int) < d.size := by omega
    have e1 : decE c d = (s'.fail 21).err := by rw [HE.out, if_neg hrest]
    have e2 : (s'.fail 21).err ≠ 0 := by unfold RS.fail; split <;> simp_all
    have q2 : ((s'.fail 21).err == 0) = false := by simpa using e2
    have q3 : decide ((s'.fail 21).err = 0) = false := by simpa using e2
    have E1 := Lib.hid e1
    have E2 := Lib.hid e2
    clear e1 e2 hrest ha2
    go_wp2_with (fail)
    refine (rfail_any _ d _ 21 _ HM.out.1).mono ?_
    rintro e w4 ⟨rfl, hm4⟩
    have k2 := hm4.1.err
    have KK4 := Lib.hid (KK.out.trans hm4.2 fun k hk => .inr (by omega))
    clear hm4
    go_wp2
    go_quiet (fail)
    go_wp2
    go_ret2
    refine ⟨KK4.out.drewN _, .inl ⟨by rw [E1.out]; exact E2.out, ?_⟩⟩
    rw [E1.out]; rfl

end Go.Proofs.Ytcnikobmepjgcaa.Codec
