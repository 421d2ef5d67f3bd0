/-
  Encode and Decode at a record's type.
-/
import Derived.Test.YtcnikobmepjgcaaCodec13
import Derived.RegionTactic
import Derived.Deep.WholeRow
namespace Go.Proofs.Ytcnikobmepjgcaa.Codec
open Go.RowKit Go.Proofs.YtcnikobmepjgcaaBase Go.Proofs.YtcnikobmepjgcaaLex2 Go.Proofs.YtcnikobmepjgcaaNum
set_option linter.unusedVariables false
set_option linter.unusedSimpArgs false

theorem results_cell_slot {P : Program} {fn : Func} {p q : Tmp} {ty : TypeId} (h : fn.results = #[.cell p ty, .tmp q]) (tmps : Array Value) (w : World) (g : Nat) (t : TypeId) (cs : Array Value) (fr : Nat × Nat) (d : TypeDesc) (u : Value)
    (hp : tmps.getD p undef = .pointer (some ⟨g, 0, none⟩)) (hq : tmps.getD q undef = u) (hg : w.heap[g]? = some (.cells cs t fr))
    (hu : P.underlying ty = some d) (hd : (match d with | .struct _ | .array _ _ => true | _ => false) = true) (hi : (P.info? ty).map (·.size) = some cs.size) :
    (results fn tmps).run P w = .ok (.tuple #[.agg cs, u]) w := by
  have hp' : tmps[p]?.getD undef = .pointer (some ⟨g, 0, none⟩) := by simpa using hp
  have hq' : tmps[q]?.getD undef = u := by simpa using hq
  simp [results, h, hp', hq', asAddr, run_loadVar_row w g t ty cs fr d hg hu hd hi]

theorem heap_alloc3_snd (w : World) (A B C : Obj) : (((w.alloc A).alloc B).alloc C).heap[w.heap.size + 1]? = some B := by
  rw [Below.heap_alloc _ _ _ (by simp)]
  exact heap_alloc2_new w A B

set_option maxHeartbeats 1600000 in
set_option maxRecDepth 100000 in
theorem encode_thing {α : Type} (W : World) (cv : Value) (c : Cod α) (x : α) (cs : Array Value) (w : World) (hc : IsCodec W cv c) (hf : Fair c) (hs : Same W w) (hsz : cs.size = 4) (hv : c.rep (fun k => k < w.heap.size) w x (.agg cs)) (hr : WRoom ⟨[], 0⟩ (c.cost x)) :
    Calls Try.prog 50 #[cv, .agg cs] w fun r w' => r = .returned (.tuple #[.string (encR c x).1, .int .i64 (encR c x).2]) ∧ Kept w w' (fun _ => False) := by
  obtain ⟨pv, gv, rfl, ⟨f, caps, rfl, he, hp⟩, _⟩ := hc
  unfold Proofs.Enters at he
  have hk1 : Kept w (((w.alloc (.cells #[.func (.func f) #[] caps, gv] 107)).alloc (.cells cs 103)).alloc (.cells #[.slice none 0 0, .int .i64 0] 128)) (fun _ => False) := (((Kept.refl w _).alloc _).alloc _).alloc _
  have hwa : WriterAt w.heap.size (((w.alloc (.cells #[.func (.func f) #[] caps, gv] 107)).alloc (.cells cs 103)).alloc (.cells #[.slice none 0 0, .int .i64 0] 128)) (w.heap.size + 2) (fun k => k = w.heap.size + 2) ⟨[], 0⟩ := by
    refine ⟨.slice none 0 0, heap_alloc3_new _ _ _ _, by omega, hk1.size, World.ownsRow_nil _ _ _ _, ?_⟩
    intro k; simp [Value.ownBlock]
  have hbc := heap_alloc3_snd w (.cells #[.func (.func f) #[] caps, gv] 107) (.cells cs 103) (.cells #[.slice none 0 0, .int .i64 0] 128)
  have P := hp _ _ _ _ _ _ _ hs.1 (hs.kept hk1 (fun _ h => h.elim)) (hf.keep hv (fun k hk1' _ => hk1.block k hk1' (fun h => h))) hwa hr
  have HI := Lib.hid (show (Try.prog.info? 103).map (·.size) = some cs.size by rw [hsz]; kernel_rfl)
  obtain ⟨s', hs'⟩ : ∃ s', c.put x ⟨[], 0⟩ = s' := ⟨_, rfl⟩
  have HE : Hid (encR c x = if s'.err = 0 then (⟨s'.out.toArray⟩, 0) else (⟨#[]⟩, s'.err)) := by rw [← hs']; exact Lib.hid rfl
  rw [hs'] at P
  have PP := Lib.hid P
  have K4 := Lib.hid hk1
  have HBC := Lib.hid hbc
  clear hp hs hv hf hr hk1 hwa hs' P hsz hbc
  go_enter Try.func50, Try.ntmps50
  go_wp2_with (first | refine wpList_load_row rfl 103 (.tmp 3) rfl (w.heap.size + 1) rfl _ cs _ _ HBC.out Try.underlying103 rfl HI.out ?_)
  refine PP.out.mono ?_
  rintro e w3 ⟨rfl, hm⟩
  obtain ⟨F', ⟨sv, hb, hp, hbs, ho, hF⟩, _, hk⟩ := hm
  have c0 := cellOf (j := 0) hb
  have c1 := cellOf (j := 1) hb
  simp at c0 c1
  have qc := run_convert_own (P := Try.prog) w3 24 9 5 w.heap.size _ sv s'.out elemByte.under underU8 underStr ho
  have KK := Lib.hid hk
  clear hb hp hbs ho hF hk
  by_cases herr : s'.err = 0
  · have HE' := Lib.hid herr
    rw [herr] at c1
    clear herr
    go_wp2
    go_ret2
    rw [HE.out, if_pos HE'.out]
    exact ⟨rfl, K4.out.trans KK.out fun k hk => .inr (by omega)⟩
  · have q0 : (s'.err == 0) = false := by simpa using herr
    have q1 : decide (s'.err = 0) = false := by simpa using herr
    have HE' := Lib.hid herr
    obtain ⟨er, hee⟩ : ∃ er, s'.err = er := ⟨_, rfl⟩
    rw [hee] at q0 q1 c1
    have HEE := Lib.hid hee
    clear herr hee qc c0
    go_wp2
    go_quiet (fail)
    go_wp2
    go_ret2
    rw [HE.out, if_neg HE'.out, HEE.out]
    exact ⟨rfl, (K4.out.trans KK.out fun k hk => .inr (by omega)).drewN _⟩

set_option maxHeartbeats 1600000 in
set_option maxRecDepth 100000 in
theorem decode_thing {α : Type} (W : World) (cv : Value) (ps : List (Prt α)) (x0 : α) (d : ByteArray) (w : World) (hc : IsCodec W cv (recC 4 ps x0)) (hfp : ∀ p ∈ ps, Fair p.c) (hs : Same W w) (hd : DSize d) :
    Calls Try.prog 52 #[cv, .string d] w fun r w' => Kept w w' (fun _ => False) ∧ ((decE (recC 4 ps x0) d ≠ 0 ∧ r = .returned (.tuple #[.agg #[.int .i64 0, .string ⟨#[]⟩, .slice none 0 0, .bool false], .int .i64 (decE (recC 4 ps x0) d)])) ∨
      (decE (recC 4 ps x0) d = 0 ∧ ∃ v, r = .returned (.tuple #[v, .int .i64 0]) ∧ (recC 4 ps x0).rep (fun k => w.heap.size ≤ k ∧ k < w'.heap.size) w' ((recC 4 ps x0).get ⟨d.data.toList, 0⟩).1 v)) := by
  obtain ⟨pv, gv, rfl, _, ⟨f, caps, rfl, he, hp⟩⟩ := hc
  unfold Proofs.Enters at he
  obtain ⟨w1, hw1⟩ : ∃ w1, ((w.alloc (.cells #[pv, .func (.func f) #[] caps] 107)).alloc (.cells #[.int .i64 0, .string ⟨#[]⟩, .slice none 0 0, .bool false] 103)).alloc (.cells #[.string d, .int .i64 0, .int .i64 0] 133) = w1 := ⟨_, rfl⟩
  have hk1 : Kept w w1 (fun _ => False) := by rw [← hw1]; exact (((Kept.refl w _).alloc _).alloc _).alloc _
  have hz1 : w1.heap.size = w.heap.size + 3 := by rw [← hw1]; simp
  have hrd : ReaderAt w1 (w.heap.size + 1 + 1) d ⟨d.data.toList, 0⟩ := by rw [← hw1]; exact ⟨0, heap_alloc3_new _ _ _ _, Nat.zero_le _, rfl⟩
  have hzb : w1.heap[w.heap.size + 1]? = some (.cells #[.int .i64 0, .string ⟨#[]⟩, .slice none 0 0, .bool false] 103 (0, 0)) := by rw [← hw1]; exact heap_alloc3_snd _ _ _ _
  have P := hp (w.heap.size + 1 + 1) d ⟨d.data.toList, 0⟩ w1 (Nat.le_trans hs.1 (by omega)) (hs.kept hk1 (fun _ h => h.elim)) hrd hd
  have hf : Fair (recC 4 ps x0) := recC_fair hfp x0
  obtain ⟨c, hcc⟩ : ∃ c, recC 4 ps x0 = c := ⟨_, rfl⟩
  have hrep : ∀ {G w x v}, c.rep G w x v → ∃ cs, v = .agg cs ∧ cs.size = 4 ∧ cs.all (·.oneCell') = true := by
    intro G w x v h
    rw [← hcc] at h
    obtain ⟨cs, h1, h2, h3, _⟩ := h
    exact ⟨cs, h1, h2, h3⟩
  rw [hcc] at P hf ⊢
  obtain ⟨x, s', hs'⟩ : ∃ x s', c.get ⟨d.data.toList, 0⟩ = (x, s') := ⟨_, _, rfl⟩
  have HE : Hid (decE c d = (if s'.rest = [] then s' else s'.fail 21).err) := by unfold decE; rw [hs']; exact Lib.hid rfl
  rw [hs'] at P ⊢
  have PP := Lib.hid P
  have K4 := Lib.hid hk1
  have HF := Lib.hid hf
  have HREP : Hid (∀ {G w x v}, c.rep G w x v → ∃ cs, v = .agg cs ∧ cs.size = 4 ∧ cs.all (·.oneCell') = true) := Lib.hid hrep
  have HZ1 := Lib.hid hz1
  have HZB := Lib.hid hzb
  have HW1 := Lib.hid hw1
  clear hp hs hf hs' P hd hcc hrep hk1 hrd hzb hz1 hfp hw1
  go_enter Try.func52, Try.ntmps52
  go_wp2_with (fail)
  rw [HW1.out]
  refine PP.out.mono ?_
  rintro e w3 ⟨v, rfl, hm, hv⟩
  obtain ⟨cs, rfl, hcs, hca⟩ := HREP.out hv
  have HCS := Lib.hid hcs
  have HCA := Lib.hid hca
  have HM := Lib.hid hm
  have HV := Lib.hid hv
  have HI := Lib.hid (show (Try.prog.info? 103).map (·.size) = some cs.size by rw [hcs]; kernel_rfl)
  have hm' := hm
  obtain ⟨⟨a, hb, ha, hr⟩, hk⟩ := hm'
  have hz1 := HZ1.out
  obtain ⟨w4, hw4⟩ : ∃ w4, w3.alloc (.cells cs 103) = w4 := ⟨_, rfl⟩
  have ka : Kept w3 w4 (fun _ => False) := by rw [← hw4]; exact (Kept.refl w3 (fun _ => False)).alloc _
  have c1 := cellOf (j := 1) (ka.blk hb (fun h => h))
  have c2 := cellOf (j := 2) (ka.blk hb (fun h => h))
  simp at c1 c2
  have KK := Lib.hid ((K4.out.trans hk (fun k hk => .inr (by omega))).trans ka (fun k h => h.elim))
  have HM4 : Hid (ReaderAt w4 (w.heap.size + 1 + 1) d s') := by rw [← hw4]; exact Lib.hid (hm.1.alloc _)
  have HV4 : Hid (c.rep (fun k => w1.heap.size ≤ k ∧ k < w4.heap.size) w4 x (.agg cs)) := Lib.hid (HF.out.mono (fun k hk => ⟨by have := hk.1; omega, by have := hk.2; have := ka.size; omega⟩) (HF.out.keep hv (fun k h1 _ => ka.block k h1 (fun h => h))))
  have HB4 := Lib.hid (ka.blk (hk.blk HZB.out (by omega)) (fun h => h))
  have HB5 : Hid (w4.heap[w3.heap.size]? = some (.cells cs 103 (0, 0))) := by rw [← hw4]; exact Lib.hid (heap_alloc_new w3 (.cells cs 103))
  have hl : s'.rest = [] ↔ a = d.size := by
    rw [hr, ← List.length_eq_zero_iff, List.length_drop, len_data]
    omega
  have HL := Lib.hid hl
  have HW4 := Lib.hid hw4
  have HS3 := Lib.hid hk.size
  clear hm hv hk hr hl hb hcs hca ka hz1 hw4
  by_cases ha2 : a = d.size
  · have hrest := HL.out.2 ha2
    have q1 : ¬ (a : Int) < d.size := by omega
    by_cases herr : s'.err = 0
    · have e1 : decE c d = 0 := by rw [HE.out, if_pos hrest, herr]
      have E1 := Lib.hid e1
      rw [herr] at c2
      clear e1 herr hrest ha2
      go_wp2_with (first | (refine wpList_store_row rfl 103 (.tmp 7) (.tmp 15) rfl w3.heap.size cs rfl rfl 103 #[.int .i64 0, .string ⟨#[]⟩, .slice none 0 0, .bool false] (heap_alloc_new _ _) HI.out (by rw [HCS.out]; rfl) HCA.out ?_; rw [Go.World.setRow_alloc_new, HW4.out]) | refine wpList_load_row rfl 103 (.tmp 7) rfl w3.heap.size rfl _ cs _ _ HB5.out Try.underlying103 rfl HI.out ?_ | refine wpList_store_row rfl 103 (.tmp 4) (.tmp 35) rfl (w.heap.size + 1) cs rfl rfl 103 _ HB4.out HI.out (by rw [HCS.out]; rfl) HCA.out ?_)
      have hsr := setRow_heap w4 (w.heap.size + 1) _ cs 103 (0, 0) HB4.out
      refine bodyPost_ret (results_cell_slot rfl _ _ _ _ _ _ _ _ rfl rfl hsr Try.underlying103 rfl HI.out) rfl ?_
      have kr : Kept w4 (w4.setRow (w.heap.size + 1) cs) (fun j => j = w.heap.size + 1) := ⟨rfl, rfl, rfl, by simp, fun j _ hj => setRow_other w4 (w.heap.size + 1) j cs hj⟩
      have hz1 := HZ1.out
      have hs3 := HS3.out
      refine ⟨KK.out.trans kr (fun k hk => .inr (by omega)), .inr ⟨E1.out, _, rfl, HF.out.mono (fun k hk => ⟨by omega, by simpa using hk.2⟩) (HF.out.keep HV4.out (fun k h1 h2 => kr.block k h1 (by omega)))⟩⟩
    · have e1 : decE c d = s'.err := by rw [HE.out, if_pos hrest]
      have e2 : decE c d ≠ 0 := by rw [e1]; exact herr
      have q2 : (s'.err == 0) = false := by simpa using herr
      have q3 : decide (s'.err = 0) = false := by simpa using herr
      have E1 := Lib.hid e1
      have E2 := Lib.hid e2
      clear e1 e2 herr hrest ha2
      go_wp2_with (refine wpList_store_row rfl 103 (.tmp 7) (.tmp 15) rfl w3.heap.size cs rfl rfl 103 #[.int .i64 0, .string ⟨#[]⟩, .slice none 0 0, .bool false] (heap_alloc_new _ _) HI.out (by rw [HCS.out]; rfl) HCA.out ?_; rw [Go.World.setRow_alloc_new, HW4.out])
      refine wp_region_lex (fun w' => w'.cell? ⟨w.heap.size + 1 + 1, 2, none⟩ = some (.int .i64 s'.err)) [1, 0, 0, 0, 3, 2, 0] (by kernel_rfl) (by kernel_rfl) (by kernel_rfl) (show (w4.alloc (.cells #[.int .i64 0, .string ⟨#[]⟩, .slice none 0 0, .bool false] 103)).cell? _ = _ by rw [World.cell?_alloc_lt _ _ _ (World.block_lt_of_cell? _ _ c2)]; exact c2) (fun Q' hQ' => ?_)
      simp only [List.zip_cons_cons, List.zip_nil_right]
      repeat (first
        | (refine wpX_silent ?_ (fun K hK => ?_)
           · rfl
           apply Exists.intro
           refine ⟨fun w' => ?_, ?_⟩
           · go_simp
             exact ⟨rfl, rfl⟩
           go_simp
           refine hK _ _ ?_
           clear hK K)
        | (refine wpX_read ?_ (fun K hK => ?_)
           · rfl
           apply Exists.intro
           refine ⟨?_, ?_⟩
           · go_simp
             exact ⟨rfl, rfl⟩
           go_simp
           refine hK _ _ ?_
           clear hK K)
        | (refine wpX_float ?_ (fun K hK => ?_)
           · rfl
           apply Exists.intro
           refine ⟨fun w' hw' => ?_, ?_⟩
           · try dsimp only at hw'
             go_simp
             exact ⟨rfl, rfl⟩
           go_simp
           refine hK _ _ ?_
           clear hK K)
        | (refine wpX_not ?_ (fun K hK => ?_)
           · rfl
           go_simp
           refine hK _ _ ?_
           clear hK K))
      refine wpX_keeps ?_ (fun K hK => ?_)
      · rfl
      have HBD := Lib.hid (show (w4.alloc (.cells #[.int .i64 0, .string ⟨#[]⟩, .slice none 0 0, .bool false] 103)).drew.heap[w.heap.size + 1]? = some (.cells #[.int .i64 0, .string ⟨#[]⟩, .slice none 0 0, .bool false] 103 (0, 0)) from (Below.heap_alloc _ _ _ (blk_lt HB4.out)).trans HB4.out)
      refine wp_store_row 103 (.tmp 4) (.tmp 30) rfl (w.heap.size + 1) #[.int .i64 0, .string ⟨#[]⟩, .slice none 0 0, .bool false] rfl rfl _ _ HBD.out (by kernel_rfl) rfl (by simp [Value.oneCell']) ?_
      have hsr := setRow_heap _ (w.heap.size + 1) _ #[.int .i64 0, .string ⟨#[]⟩, .slice none 0 0, .bool false] 103 (0, 0) HBD.out
      have kr : Kept w4 ((w4.alloc (.cells #[.int .i64 0, .string ⟨#[]⟩, .slice none 0 0, .bool false] 103)).drew.setRow (w.heap.size + 1) #[.int .i64 0, .string ⟨#[]⟩, .slice none 0 0, .bool false]) (fun j => j = w.heap.size + 1) := ((Kept.refl w4 (fun j => j = w.heap.size + 1)).alloc _).drew.trans (G := fun j => j = w.heap.size + 1) ⟨rfl, rfl, rfl, by simp, fun j _ hj => setRow_other _ (w.heap.size + 1) j _ hj⟩ (fun k h => .inl h)
      have HSR := Lib.hid hsr
      have KR := Lib.hid kr
      obtain ⟨wz, hwz⟩ : ∃ wz, (w4.alloc (.cells #[.int .i64 0, .string ⟨#[]⟩, .slice none 0 0, .bool false] 103)).drew.setRow (w.heap.size + 1) #[.int .i64 0, .string ⟨#[]⟩, .slice none 0 0, .bool false] = wz := ⟨_, rfl⟩
      rw [hwz] at HSR KR ⊢
      have hce : wz.cell? ⟨w.heap.size + 1 + 1, 2, none⟩ = some (.int .i64 s'.err) := by
        rw [← c2]
        simp only [World.cell?, KR.out.block (w.heap.size + 1 + 1) (World.block_lt_of_cell? _ _ c2) (by omega)]
      clear hsr kr hwz
      go_simp
      refine hK _ _ ⟨rfl, hce, ?_⟩
      clear hK K
      repeat (first
        | (refine wpX_silent ?_ (fun K hK => ?_)
           · rfl
           apply Exists.intro
           refine ⟨fun w' => ?_, ?_⟩
           · go_simp
             exact ⟨rfl, rfl⟩
           go_simp
           refine hK _ _ ?_
           clear hK K)
        | (refine wpX_read ?_ (fun K hK => ?_)
           · rfl
           apply Exists.intro
           refine ⟨?_, ?_⟩
           · go_simp
             exact ⟨rfl, rfl⟩
           go_simp
           refine hK _ _ ?_
           clear hK K)
        | (refine wpX_float ?_ (fun K hK => ?_)
           · rfl
           apply Exists.intro
           refine ⟨fun w' hw' => ?_, ?_⟩
           · try dsimp only at hw'
             go_simp
             exact ⟨rfl, rfl⟩
           go_simp
           refine hK _ _ ?_
           clear hK K)
        | (refine wpX_not ?_ (fun K hK => ?_)
           · rfl
           go_simp
           refine hK _ _ ?_
           clear hK K))
      refine wpX_nil (hQ' _ _ ?_)
      go_wp2
      refine bodyPost_ret (results_cell_slot rfl _ _ _ _ _ _ _ _ rfl rfl HSR.out Try.underlying103 rfl (by kernel_rfl)) rfl ?_
      refine ⟨KK.out.trans KR.out (fun k hk => .inr (by omega)), .inl ⟨E2.out, ?_⟩⟩
      rw [E1.out]; rfl
  · have hrest : s'.rest ≠ [] := fun h => ha2 (HL.out.1 h)
    have q1 : (a : Int) < d.size := by omega
    have e1 : decE c d = (s'.fail 21).err := by rw [HE.out, if_neg hrest]
    have e2 : (s'.fail 21).err ≠ 0 := by unfold RS.fail; split <;> simp_all
    have q2 : ((s'.fail 21).err == 0) = false := by simpa using e2
    have q3 : decide ((s'.fail 21).err = 0) = false := by simpa using e2
    have E1 := Lib.hid e1
    have E2 := Lib.hid e2
    clear e1 e2 hrest ha2
    go_wp2_with (refine wpList_store_row rfl 103 (.tmp 7) (.tmp 15) rfl w3.heap.size cs rfl rfl 103 #[.int .i64 0, .string ⟨#[]⟩, .slice none 0 0, .bool false] (heap_alloc_new _ _) HI.out (by rw [HCS.out]; rfl) HCA.out ?_; rw [Go.World.setRow_alloc_new, HW4.out])
    refine (rfail_any _ d _ 21 _ HM4.out).mono ?_
    rintro e w5 ⟨rfl, hm5⟩
    have k2 := hm5.1.err
    have KK5 := Lib.hid (KK.out.trans hm5.2 fun k hk => .inr (by omega))
    have HB6 := Lib.hid (hm5.2.blk HB4.out (by omega))
    clear hm5 c1 c2
    go_wp2
    refine wp_region_lex (fun w' => w'.cell? ⟨w.heap.size + 1 + 1, 2, none⟩ = some (.int .i64 (s'.fail 21).err)) [1, 0, 0, 0, 3, 2, 0] (by kernel_rfl) (by kernel_rfl) (by kernel_rfl) (show (w5.alloc (.cells #[.int .i64 0, .string ⟨#[]⟩, .slice none 0 0, .bool false] 103)).cell? _ = _ by rw [World.cell?_alloc_lt _ _ _ (World.block_lt_of_cell? _ _ k2)]; exact k2) (fun Q' hQ' => ?_)
    simp only [List.zip_cons_cons, List.zip_nil_right]
    repeat (first
      | (refine wpX_silent ?_ (fun K hK => ?_)
         · rfl
         apply Exists.intro
         refine ⟨fun w' => ?_, ?_⟩
         · go_simp
           exact ⟨rfl, rfl⟩
         go_simp
         refine hK _ _ ?_
         clear hK K)
      | (refine wpX_read ?_ (fun K hK => ?_)
         · rfl
         apply Exists.intro
         refine ⟨?_, ?_⟩
         · go_simp
           exact ⟨rfl, rfl⟩
         go_simp
         refine hK _ _ ?_
         clear hK K)
      | (refine wpX_float ?_ (fun K hK => ?_)
         · rfl
         apply Exists.intro
         refine ⟨fun w' hw' => ?_, ?_⟩
         · try dsimp only at hw'
           go_simp
           exact ⟨rfl, rfl⟩
         go_simp
         refine hK _ _ ?_
         clear hK K)
      | (refine wpX_not ?_ (fun K hK => ?_)
         · rfl
         go_simp
         refine hK _ _ ?_
         clear hK K))
    refine wpX_keeps ?_ (fun K hK => ?_)
    · rfl
    have HBD := Lib.hid (show (w5.alloc (.cells #[.int .i64 0, .string ⟨#[]⟩, .slice none 0 0, .bool false] 103)).drew.heap[w.heap.size + 1]? = some (.cells #[.int .i64 0, .string ⟨#[]⟩, .slice none 0 0, .bool false] 103 (0, 0)) from (Below.heap_alloc _ _ _ (blk_lt HB6.out)).trans HB6.out)
    refine wp_store_row 103 (.tmp 4) (.tmp 30) rfl (w.heap.size + 1) #[.int .i64 0, .string ⟨#[]⟩, .slice none 0 0, .bool false] rfl rfl _ _ HBD.out (by kernel_rfl) rfl (by simp [Value.oneCell']) ?_
    have hsr := setRow_heap _ (w.heap.size + 1) _ #[.int .i64 0, .string ⟨#[]⟩, .slice none 0 0, .bool false] 103 (0, 0) HBD.out
    have kr : Kept w5 ((w5.alloc (.cells #[.int .i64 0, .string ⟨#[]⟩, .slice none 0 0, .bool false] 103)).drew.setRow (w.heap.size + 1) #[.int .i64 0, .string ⟨#[]⟩, .slice none 0 0, .bool false]) (fun j => j = w.heap.size + 1) := ((Kept.refl w5 (fun j => j = w.heap.size + 1)).alloc _).drew.trans (G := fun j => j = w.heap.size + 1) ⟨rfl, rfl, rfl, by simp, fun j _ hj => setRow_other _ (w.heap.size + 1) j _ hj⟩ (fun k h => .inl h)
    have HSR := Lib.hid hsr
    have KR := Lib.hid kr
    obtain ⟨wz, hwz⟩ : ∃ wz, (w5.alloc (.cells #[.int .i64 0, .string ⟨#[]⟩, .slice none 0 0, .bool false] 103)).drew.setRow (w.heap.size + 1) #[.int .i64 0, .string ⟨#[]⟩, .slice none 0 0, .bool false] = wz := ⟨_, rfl⟩
    rw [hwz] at HSR KR ⊢
    have hce : wz.cell? ⟨w.heap.size + 1 + 1, 2, none⟩ = some (.int .i64 (s'.fail 21).err) := by
      rw [← k2]
      simp only [World.cell?, KR.out.block (w.heap.size + 1 + 1) (World.block_lt_of_cell? _ _ k2) (by omega)]
    clear hsr kr hwz
    go_simp
    refine hK _ _ ⟨rfl, hce, ?_⟩
    clear hK K
    repeat (first
      | (refine wpX_silent ?_ (fun K hK => ?_)
         · rfl
         apply Exists.intro
         refine ⟨fun w' => ?_, ?_⟩
         · go_simp
           exact ⟨rfl, rfl⟩
         go_simp
         refine hK _ _ ?_
         clear hK K)
      | (refine wpX_read ?_ (fun K hK => ?_)
         · rfl
         apply Exists.intro
         refine ⟨?_, ?_⟩
         · go_simp
           exact ⟨rfl, rfl⟩
         go_simp
         refine hK _ _ ?_
         clear hK K)
      | (refine wpX_float ?_ (fun K hK => ?_)
         · rfl
         apply Exists.intro
         refine ⟨fun w' hw' => ?_, ?_⟩
         · try dsimp only at hw'
           go_simp
           exact ⟨rfl, rfl⟩
         go_simp
         refine hK _ _ ?_
         clear hK K)
      | (refine wpX_not ?_ (fun K hK => ?_)
         · rfl
         go_simp
         refine hK _ _ ?_
         clear hK K))
    refine wpX_nil (hQ' _ _ ?_)
    go_wp2
    refine bodyPost_ret (results_cell_slot rfl _ _ _ _ _ _ _ _ rfl rfl HSR.out Try.underlying103 rfl (by kernel_rfl)) rfl ?_
    refine ⟨KK5.out.trans KR.out (fun k hk => .inr (by omega)), .inl ⟨by rw [E1.out]; exact E2.out, ?_⟩⟩
    rw [E1.out]; rfl

end Go.Proofs.Ytcnikobmepjgcaa.Codec
