/-
  Frames: what is read, walked.
-/
import Derived.Test.YtaifjojfmkcmjaaDoorFr1
namespace Go.Proofs.YtaifjojfmkcmjaaDoor.Term
open Go.RowKit Go.Sort Go.Proofs.YtaifjojfmkcmjaaDoorBase Go.Proofs.YtaifjojfmkcmjaaDoorLex2 Go.Proofs.YtaifjojfmkcmjaaDoor.Dec
set_option linter.unusedVariables false
set_option linter.unusedSimpArgs false

def plainX (x : Node) : Int × Bool := if x.kind = 2 then plainB x.label else (0, false)
def plainT (l : List Node) (t : Int) : Int × Bool := plainX (getN l t)
theorem kept_below {w w' : World} (h : Below w.heap.size w w') : Kept w w' (fun _ => False) := ⟨h.os, h.tape, h.output, h.size, fun k hk _ => h.block k hk⟩
theorem kept_bytes (w : World) (e : TypeId) (s : ByteArray) : Kept w (Lib.bytesWorld w e s) (fun _ => False) := by
  exact kept_below (Joins.below_bytesWorld _ w e s (Nat.le_refl _))
theorem atoi_64 {l : List UInt8} {v : Int} (hl : l.length ≤ 18) (h : Lib.atoi l = some v) : I64 v := by
  unfold I64
  cases l with
  | nil => cases h
  | cons b r =>
    simp only [List.length_cons] at hl
    simp only [Lib.atoi] at h
    split at h
    · cases hd : Lib.decNat r with
      | none => rw [hd] at h; cases h
      | some m =>
        have := Lib.decNat_small (by omega) hd
        rw [hd] at h
        simp only [Option.map_some, Option.some.injEq] at h
        omega
    · split at h
      · cases hd : Lib.decNat r with
        | none => rw [hd] at h; cases h
        | some m =>
          have := Lib.decNat_small (by omega) hd
          rw [hd] at h
          simp only [Option.map_some, Option.some.injEq] at h
          omega
      · cases hd : Lib.decNat (b :: r) with
        | none => rw [hd] at h; cases h
        | some m =>
          have := Lib.decNat_small (by simp only [List.length_cons]; omega) hd
          rw [hd] at h
          simp only [Option.map_some, Option.some.injEq] at h
          omega

theorem atoi_some (w : World) (l : ByteArray) (v : Int) (hl : l.size ≤ 10) (h : Lib.atoi l.data.toList = some v) :
    Calls Tryd.prog 43 #[.string l] w fun e w' => e = .returned (.tuple #[.int .i64 v, .nilIface]) ∧ Kept w w' (fun _ => False) := by
  refine (Tryd.strconv_Atoi l v (by omega) h w).mono ?_
  rintro e w' ⟨rfl, t, rfl⟩
  exact ⟨rfl, kept_bytes _ _ _⟩
theorem atoi_none (w : World) (l : ByteArray) (hg : Gl w) (hl : l.size ≤ 10) (h : Lib.atoi l.data.toList = none) :
    Calls Tryd.prog 43 #[.string l] w fun e w' => (∃ N, e = .returned (.tuple #[.int .i64 0, .iface 111 (.pointer (some ⟨N, 0, none⟩))])) ∧ Kept w w' (fun _ => False) := by
  obtain ⟨-, ⟨tp, q, h2⟩, -⟩ := hg
  refine (Tryd.strconv_Atoi_no l (by omega) h tp q w h2).mono ?_
  rintro e w' ⟨N, rfl, -, -, hb⟩
  exact ⟨⟨N, rfl⟩, kept_below hb⟩

set_option maxHeartbeats 1600000 in
set_option maxRecDepth 100000 in
theorem plain_any (w0 w : World) (p : Nat) (F : Nat → Prop) (s : TS) (t : Int) (h : SAt w0 w p F s) :
    Calls Tryd.prog 15 #[.pointer (some ⟨p, 0, none⟩), .int .i64 t] w fun e w' => e = .returned (.tuple #[.int .i64 (plainT s.nodes t).1, .bool (plainT s.nodes t).2]) ∧ Kept w w' (fun _ => False) := by
  have hg := h.glob
  have H := Lib.hid h
  have HG := Lib.hid hg
  clear h hg
  have C := fun w1 h1 => get_any w0 w1 p F s t h1
  unfold plainT
  obtain ⟨x, hx⟩ : ∃ x, getN s.nodes t = x := ⟨_, rfl⟩
  obtain ⟨kn, hkn⟩ : ∃ x, knownB s.nodes t = x := ⟨_, rfl⟩
  rw [hx, hkn] at C
  rw [hx]
  have HC := Lib.hid C
  clear C hx hkn
  obtain ⟨xk, xl, xa, xb⟩ := x
  have e0 : plainX ⟨xk, xl, xa, xb⟩ = if xk = 2 then plainB xl else (0, false) := rfl
  rw [e0]
  clear e0
  by_cases h2 : xk = 2
  · rw [if_pos h2]
    subst h2
    by_cases hs : xl.size ≤ 10
    · unfold plainB
      rw [if_pos hs]
      have hll : xl.data.toList.length ≤ 18 := by rw [len_data]; omega
      cases ha : Lib.atoi xl.data.toList with
      | none =>
        have HA := Lib.hid ha
        have HS := Lib.hid hs
        have q : ¬ ((10 : Int) < xl.size) := by omega
        clear ha hll hs
        go_enter Tryd.func15, Tryd.ntmps15
        go_wp2_with (fail)
        refine (HC.out w H.out).mono ?_
        rintro e w1 ⟨rfl, hk⟩
        have K1 := Lib.hid (hk.alloc (.cells #[.int .i64 2, .string xl, .int .i64 xa, .int .i64 xb] 37))
        clear hk
        unfold nodeV
        go_wp2_with (fail)
        refine (atoi_none _ xl ((H.out.kept K1.out).glob) HS.out HA.out).mono ?_
        rintro e w2 ⟨⟨N, rfl⟩, hk⟩
        have K2 := Lib.hid (K1.out.trans hk (fun _ h => h.elim))
        have hb2 := hk.blk (heap_alloc_new w1 _) (fun h => h)
        have c1 := cellOf (j := 1) hb2
        simp at c1
        clear hk
        go_wp2_with (fail)
        refine wp_region_lex (fun w' => w'.cell? ⟨w1.heap.size, 1, none⟩ = some (.string xl)) [0, 0, 0, 0, 2, 0, 3, 0, 0, 0, 0, 0, 0, 0, 0, 0, 0] (by kernel_rfl) (by kernel_rfl) (by kernel_rfl) (c1) (fun Q' hQ' => ?_)
        simp only [List.zip_cons_cons, List.zip_nil_right]
        repeat (first
          | (refine wpX_silent ?_ (fun K hK => ?_)
             · rfl
             apply Exists.intro
             refine ⟨fun w' => ?_, ?_⟩
             · go_simp
               exact ⟨rfl, rfl⟩
             go_simp
             refine hK _ _ ?_
             clear hK K)
          | (refine wpX_read ?_ (fun K hK => ?_)
             · rfl
             apply Exists.intro
             refine ⟨?_, ?_⟩
             · go_simp
               exact ⟨rfl, rfl⟩
             go_simp
             refine hK _ _ ?_
             clear hK K)
          | (refine wpX_float ?_ (fun K hK => ?_)
             · rfl
             apply Exists.intro
             refine ⟨fun w' hw' => ?_, ?_⟩
             · try dsimp only at hw'
               go_simp
               exact ⟨rfl, rfl⟩
             go_simp
             refine hK _ _ ?_
             clear hK K)
          | (refine wpX_not ?_ (fun K hK => ?_)
             · rfl
             go_simp
             refine hK _ _ ?_
             clear hK K))
        refine wpX_nil (hQ' _ _ ?_)
        go_wp2
        go_ret2
        exact ⟨rfl, K2.out.drew⟩
      | some v =>
        have HV := Lib.hid (atoi_64 hll ha)
        have HA := Lib.hid ha
        have HS := Lib.hid hs
        have q : ¬ ((10 : Int) < xl.size) := by omega
        clear ha hll hs
        simp only
        by_cases hn : numS v = xl
        · have hq : ((numS v).toList == xl.toList) = true := by rw [hn]; simp
          have HN := Lib.hid hn
          by_cases h9 : v < 1000000000
          · have q9 : ¬ (1000000000 ≤ v) := by omega
            have d9 : decide (1000000000 ≤ v) = false := decide_eq_false q9
            by_cases h8 : -1000000000 < v
            · have q8 : ¬ (v ≤ -1000000000) := by omega
              have d8 : decide (v ≤ -1000000000) = false := decide_eq_false q8
              rw [if_pos ⟨hn, h9, h8⟩]
              clear hn
              go_enter Tryd.func15, Tryd.ntmps15
              go_wp2_with (fail)
              refine (HC.out w H.out).mono ?_
              rintro e w1 ⟨rfl, hk⟩
              have K1 := Lib.hid (hk.alloc (.cells #[.int .i64 2, .string xl, .int .i64 xa, .int .i64 xb] 37))
              clear hk
              unfold nodeV
              go_wp2_with (fail)
              refine (atoi_some _ xl v HS.out HA.out).mono ?_
              rintro e w2 ⟨rfl, hk⟩
              have K2 := Lib.hid (K1.out.trans hk (fun _ h => h.elim))
              have hb2 := hk.blk (heap_alloc_new w1 _) (fun h => h)
              have HB2 := Lib.hid hb2
              have c1 := cellOf (j := 1) hb2
              simp at c1
              clear hk
              have C1 := Lib.hid c1
              go_wp2_with (fail)
              refine wp_region_lex (fun w' => w'.cell? ⟨w1.heap.size, 1, none⟩ = some (.string xl)) [0, 0, 0, 0, 2, 0, 3, 0, 0, 0, 0, 0, 0, 0, 0, 0, 0] (by kernel_rfl) (by kernel_rfl) (by kernel_rfl) (C1.out) (fun Q' hQ' => ?_)
              simp only [List.zip_cons_cons, List.zip_nil_right]
              repeat (first
                | (refine wpX_silent ?_ (fun K hK => ?_)
                   · rfl
                   apply Exists.intro
                   refine ⟨fun w' => ?_, ?_⟩
                   · go_simp
                     exact ⟨rfl, rfl⟩
                   go_simp
                   refine hK _ _ ?_
                   clear hK K)
                | (refine wpX_read ?_ (fun K hK => ?_)
                   · rfl
                   apply Exists.intro
                   refine ⟨?_, ?_⟩
                   · go_simp
                     exact ⟨rfl, rfl⟩
                   go_simp
                   refine hK _ _ ?_
                   clear hK K)
                | (refine wpX_float ?_ (fun K hK => ?_)
                   · rfl
                   apply Exists.intro
                   refine ⟨fun w' hw' => ?_, ?_⟩
                   · try dsimp only at hw'
                     go_simp
                     exact ⟨rfl, rfl⟩
                   go_simp
                   refine hK _ _ ?_
                   clear hK K)
                | (refine wpX_not ?_ (fun K hK => ?_)
                   · rfl
                   go_simp
                   refine hK _ _ ?_
                   clear hK K))
              refine wpX_keeps ?_ (fun K hK => ?_)
              · rfl
              go_wp2_with (fail)
              refine (Tryd.strconv_Itoa v HV.out.1 HV.out.2 _ ((H.out.kept K2.out.drew).glob).1).mono ?_
              rintro e w3 ⟨rfl, k, os, hw3⟩
              have e3 : (⟨(Lib.itoa v).toArray⟩ : ByteArray) = numS v := rfl
              rw [e3]
              have hk3 : Kept w2.drew w3 (fun _ => False) := by rw [hw3]; exact kept_grow _ _ _
              have K3 := Lib.hid (K2.out.drew.trans hk3 (fun _ h => h.elim))
              have c3 := cellOf (j := 1) (hk3.blk (show w2.drew.heap[w1.heap.size]? = _ from HB2.out) (fun h => h))
              simp at c3
              clear e3 hw3 hk3
              go_simp
              refine hK _ _ ⟨rfl, c3, ?_⟩
              clear hK K
              repeat (first
                | (refine wpX_silent ?_ (fun K hK => ?_)
                   · rfl
                   apply Exists.intro
                   refine ⟨fun w' => ?_, ?_⟩
                   · go_simp
                     exact ⟨rfl, rfl⟩
                   go_simp
                   refine hK _ _ ?_
                   clear hK K)
                | (refine wpX_read ?_ (fun K hK => ?_)
                   · rfl
                   apply Exists.intro
                   refine ⟨?_, ?_⟩
                   · go_simp
                     exact ⟨rfl, rfl⟩
                   go_simp
                   refine hK _ _ ?_
                   clear hK K)
                | (refine wpX_float ?_ (fun K hK => ?_)
                   · rfl
                   apply Exists.intro
                   refine ⟨fun w' hw' => ?_, ?_⟩
                   · try dsimp only at hw'
                     go_simp
                     exact ⟨rfl, rfl⟩
                   go_simp
                   refine hK _ _ ?_
                   clear hK K)
                | (refine wpX_not ?_ (fun K hK => ?_)
                   · rfl
                   go_simp
                   refine hK _ _ ?_
                   clear hK K))
              refine wpX_nil (hQ' _ _ ?_)
              go_wp2
              go_ret2
              exact ⟨rfl, K3.out⟩
            · have q8 : v ≤ -1000000000 := by omega
              have d8 : decide (v ≤ -1000000000) = true := decide_eq_true q8
              rw [if_neg (fun h => h8 h.2.2)]
              clear hn
              go_enter Tryd.func15, Tryd.ntmps15
              go_wp2_with (fail)
              refine (HC.out w H.out).mono ?_
              rintro e w1 ⟨rfl, hk⟩
              have K1 := Lib.hid (hk.alloc (.cells #[.int .i64 2, .string xl, .int .i64 xa, .int .i64 xb] 37))
              clear hk
              unfold nodeV
              go_wp2_with (fail)
              refine (atoi_some _ xl v HS.out HA.out).mono ?_
              rintro e w2 ⟨rfl, hk⟩
              have K2 := Lib.hid (K1.out.trans hk (fun _ h => h.elim))
              have hb2 := hk.blk (heap_alloc_new w1 _) (fun h => h)
              have HB2 := Lib.hid hb2
              have c1 := cellOf (j := 1) hb2
              simp at c1
              clear hk
              have C1 := Lib.hid c1
              go_wp2_with (fail)
              refine wp_region_lex (fun w' => w'.cell? ⟨w1.heap.size, 1, none⟩ = some (.string xl)) [0, 0, 0, 0, 2, 0, 3, 0, 0, 0, 0, 0, 0, 0, 0, 0, 0] (by kernel_rfl) (by kernel_rfl) (by kernel_rfl) (C1.out) (fun Q' hQ' => ?_)
              simp only [List.zip_cons_cons, List.zip_nil_right]
              repeat (first
                | (refine wpX_silent ?_ (fun K hK => ?_)
                   · rfl
                   apply Exists.intro
                   refine ⟨fun w' => ?_, ?_⟩
                   · go_simp
                     exact ⟨rfl, rfl⟩
                   go_simp
                   refine hK _ _ ?_
                   clear hK K)
                | (refine wpX_read ?_ (fun K hK => ?_)
                   · rfl
                   apply Exists.intro
                   refine ⟨?_, ?_⟩
                   · go_simp
                     exact ⟨rfl, rfl⟩
                   go_simp
                   refine hK _ _ ?_
                   clear hK K)
                | (refine wpX_float ?_ (fun K hK => ?_)
                   · rfl
                   apply Exists.intro
                   refine ⟨fun w' hw' => ?_, ?_⟩
                   · try dsimp only at hw'
                     go_simp
                     exact ⟨rfl, rfl⟩
                   go_simp
                   refine hK _ _ ?_
                   clear hK K)
                | (refine wpX_not ?_ (fun K hK => ?_)
                   · rfl
                   go_simp
                   refine hK _ _ ?_
                   clear hK K))
              refine wpX_keeps ?_ (fun K hK => ?_)
              · rfl
              go_wp2_with (fail)
              refine (Tryd.strconv_Itoa v HV.out.1 HV.out.2 _ ((H.out.kept K2.out.drew).glob).1).mono ?_
              rintro e w3 ⟨rfl, k, os, hw3⟩
              have e3 : (⟨(Lib.itoa v).toArray⟩ : ByteArray) = numS v := rfl
              rw [e3]
              have hk3 : Kept w2.drew w3 (fun _ => False) := by rw [hw3]; exact kept_grow _ _ _
              have K3 := Lib.hid (K2.out.drew.trans hk3 (fun _ h => h.elim))
              have c3 := cellOf (j := 1) (hk3.blk (show w2.drew.heap[w1.heap.size]? = _ from HB2.out) (fun h => h))
              simp at c3
              clear e3 hw3 hk3
              go_simp
              refine hK _ _ ⟨rfl, c3, ?_⟩
              clear hK K
              repeat (first
                | (refine wpX_silent ?_ (fun K hK => ?_)
                   · rfl
                   apply Exists.intro
                   refine ⟨fun w' => ?_, ?_⟩
                   · go_simp
                     exact ⟨rfl, rfl⟩
                   go_simp
                   refine hK _ _ ?_
                   clear hK K)
                | (refine wpX_read ?_ (fun K hK => ?_)
                   · rfl
                   apply Exists.intro
                   refine ⟨?_, ?_⟩
                   · go_simp
                     exact ⟨rfl, rfl⟩
                   go_simp
                   refine hK _ _ ?_
                   clear hK K)
                | (refine wpX_float ?_ (fun K hK => ?_)
                   · rfl
                   apply Exists.intro
                   refine ⟨fun w' hw' => ?_, ?_⟩
                   · try dsimp only at hw'
                     go_simp
                     exact ⟨rfl, rfl⟩
                   go_simp
                   refine hK _ _ ?_
                   clear hK K)
                | (refine wpX_not ?_ (fun K hK => ?_)
                   · rfl
                   go_simp
                   refine hK _ _ ?_
                   clear hK K))
              refine wpX_nil (hQ' _ _ ?_)
              go_wp2
              go_ret2
              exact ⟨rfl, K3.out⟩
          · have q9 : 1000000000 ≤ v := by omega
            have d9 : decide (1000000000 ≤ v) = true := decide_eq_true q9
            rw [if_neg (fun h => h9 h.2.1)]
            clear hn
            go_enter Tryd.func15, Tryd.ntmps15
            go_wp2_with (fail)
            refine (HC.out w H.out).mono ?_
            rintro e w1 ⟨rfl, hk⟩
            have K1 := Lib.hid (hk.alloc (.cells #[.int .i64 2, .string xl, .int .i64 xa, .int .i64 xb] 37))
            clear hk
            unfold nodeV
            go_wp2_with (fail)
            refine (atoi_some _ xl v HS.out HA.out).mono ?_
            rintro e w2 ⟨rfl, hk⟩
            have K2 := Lib.hid (K1.out.trans hk (fun _ h => h.elim))
            have hb2 := hk.blk (heap_alloc_new w1 _) (fun h => h)
            have HB2 := Lib.hid hb2
            have c1 := cellOf (j := 1) hb2
            simp at c1
            clear hk
            have C1 := Lib.hid c1
            go_wp2_with (fail)
            refine wp_region_lex (fun w' => w'.cell? ⟨w1.heap.size, 1, none⟩ = some (.string xl)) [0, 0, 0, 0, 2, 0, 3, 0, 0, 0, 0, 0, 0, 0, 0, 0, 0] (by kernel_rfl) (by kernel_rfl) (by kernel_rfl) (C1.out) (fun Q' hQ' => ?_)
            simp only [List.zip_cons_cons, List.zip_nil_right]
            repeat (first
              | (refine wpX_silent ?_ (fun K hK => ?_)
                 · rfl
                 apply Exists.intro
                 refine ⟨fun w' => ?_, ?_⟩
                 · go_simp
                   exact ⟨rfl, rfl⟩
                 go_simp
                 refine hK _ _ ?_
                 clear hK K)
              | (refine wpX_read ?_ (fun K hK => ?_)
                 · rfl
                 apply Exists.intro
                 refine ⟨?_, ?_⟩
                 · go_simp
                   exact ⟨rfl, rfl⟩
                 go_simp
                 refine hK _ _ ?_
                 clear hK K)
              | (refine wpX_float ?_ (fun K hK => ?_)
                 · rfl
                 apply Exists.intro
                 refine ⟨fun w' hw' => ?_, ?_⟩
                 · try dsimp only at hw'
                   go_simp
                   exact ⟨rfl, rfl⟩
                 go_simp
                 refine hK _ _ ?_
                 clear hK K)
              | (refine wpX_not ?_ (fun K hK => ?_)
                 · rfl
                 go_simp
                 refine hK _ _ ?_
                 clear hK K))
            refine wpX_keeps ?_ (fun K hK => ?_)
            · rfl
            go_wp2_with (fail)
            refine (Tryd.strconv_Itoa v HV.out.1 HV.out.2 _ ((H.out.kept K2.out.drew).glob).1).mono ?_
            rintro e w3 ⟨rfl, k, os, hw3⟩
            have e3 : (⟨(Lib.itoa v).toArray⟩ : ByteArray) = numS v := rfl
            rw [e3]
            have hk3 : Kept w2.drew w3 (fun _ => False) := by rw [hw3]; exact kept_grow _ _ _
            have K3 := Lib.hid (K2.out.drew.trans hk3 (fun _ h => h.elim))
            have c3 := cellOf (j := 1) (hk3.blk (show w2.drew.heap[w1.heap.size]? = _ from HB2.out) (fun h => h))
            simp at c3
            clear e3 hw3 hk3
            go_simp
            refine hK _ _ ⟨rfl, c3, ?_⟩
            clear hK K
            repeat (first
              | (refine wpX_silent ?_ (fun K hK => ?_)
                 · rfl
                 apply Exists.intro
                 refine ⟨fun w' => ?_, ?_⟩
                 · go_simp
                   exact ⟨rfl, rfl⟩
                 go_simp
                 refine hK _ _ ?_
                 clear hK K)
              | (refine wpX_read ?_ (fun K hK => ?_)
                 · rfl
                 apply Exists.intro
                 refine ⟨?_, ?_⟩
                 · go_simp
                   exact ⟨rfl, rfl⟩
                 go_simp
                 refine hK _ _ ?_
                 clear hK K)
              | (refine wpX_float ?_ (fun K hK => ?_)
                 · rfl
                 apply Exists.intro
                 refine ⟨fun w' hw' => ?_, ?_⟩
                 · try dsimp only at hw'
                   go_simp
                   exact ⟨rfl, rfl⟩
                 go_simp
                 refine hK _ _ ?_
                 clear hK K)
              | (refine wpX_not ?_ (fun K hK => ?_)
                 · rfl
                 go_simp
                 refine hK _ _ ?_
                 clear hK K))
            refine wpX_nil (hQ' _ _ ?_)
            go_wp2
            go_ret2
            exact ⟨rfl, K3.out⟩
        · rw [if_neg (fun h => hn h.1)]
          have hq := str_ne hn
          go_enter Tryd.func15, Tryd.ntmps15
          go_wp2_with (fail)
          refine (HC.out w H.out).mono ?_
          rintro e w1 ⟨rfl, hk⟩
          have K1 := Lib.hid (hk.alloc (.cells #[.int .i64 2, .string xl, .int .i64 xa, .int .i64 xb] 37))
          clear hk
          unfold nodeV
          go_wp2_with (fail)
          refine (atoi_some _ xl v HS.out HA.out).mono ?_
          rintro e w2 ⟨rfl, hk⟩
          have K2 := Lib.hid (K1.out.trans hk (fun _ h => h.elim))
          have hb2 := hk.blk (heap_alloc_new w1 _) (fun h => h)
          have HB2 := Lib.hid hb2
          have c1 := cellOf (j := 1) hb2
          simp at c1
          clear hk
          have C1 := Lib.hid c1
          go_wp2_with (fail)
          refine wp_region_lex (fun w' => w'.cell? ⟨w1.heap.size, 1, none⟩ = some (.string xl)) [0, 0, 0, 0, 2, 0, 3, 0, 0, 0, 0, 0, 0, 0, 0, 0, 0] (by kernel_rfl) (by kernel_rfl) (by kernel_rfl) (C1.out) (fun Q' hQ' => ?_)
          simp only [List.zip_cons_cons, List.zip_nil_right]
          repeat (first
            | (refine wpX_silent ?_ (fun K hK => ?_)
               · rfl
               apply Exists.intro
               refine ⟨fun w' => ?_, ?_⟩
               · go_simp
                 exact ⟨rfl, rfl⟩
               go_simp
               refine hK _ _ ?_
               clear hK K)
            | (refine wpX_read ?_ (fun K hK => ?_)
               · rfl
               apply Exists.intro
               refine ⟨?_, ?_⟩
               · go_simp
                 exact ⟨rfl, rfl⟩
               go_simp
               refine hK _ _ ?_
               clear hK K)
            | (refine wpX_float ?_ (fun K hK => ?_)
               · rfl
               apply Exists.intro
               refine ⟨fun w' hw' => ?_, ?_⟩
               · try dsimp only at hw'
                 go_simp
                 exact ⟨rfl, rfl⟩
               go_simp
               refine hK _ _ ?_
               clear hK K)
            | (refine wpX_not ?_ (fun K hK => ?_)
               · rfl
               go_simp
               refine hK _ _ ?_
               clear hK K))
          refine wpX_keeps ?_ (fun K hK => ?_)
          · rfl
          go_wp2_with (fail)
          refine (Tryd.strconv_Itoa v HV.out.1 HV.out.2 _ ((H.out.kept K2.out.drew).glob).1).mono ?_
          rintro e w3 ⟨rfl, k, os, hw3⟩
          have e3 : (⟨(Lib.itoa v).toArray⟩ : ByteArray) = numS v := rfl
          rw [e3]
          have hk3 : Kept w2.drew w3 (fun _ => False) := by rw [hw3]; exact kept_grow _ _ _
          have K3 := Lib.hid (K2.out.drew.trans hk3 (fun _ h => h.elim))
          have c3 := cellOf (j := 1) (hk3.blk (show w2.drew.heap[w1.heap.size]? = _ from HB2.out) (fun h => h))
          simp at c3
          clear e3 hw3 hk3
          go_simp
          refine hK _ _ ⟨rfl, c3, ?_⟩
          clear hK K
          repeat (first
            | (refine wpX_silent ?_ (fun K hK => ?_)
               · rfl
               apply Exists.intro
               refine ⟨fun w' => ?_, ?_⟩
               · go_simp
                 exact ⟨rfl, rfl⟩
               go_simp
               refine hK _ _ ?_
               clear hK K)
            | (refine wpX_read ?_ (fun K hK => ?_)
               · rfl
               apply Exists.intro
               refine ⟨?_, ?_⟩
               · go_simp
                 exact ⟨rfl, rfl⟩
               go_simp
               refine hK _ _ ?_
               clear hK K)
            | (refine wpX_float ?_ (fun K hK => ?_)
               · rfl
               apply Exists.intro
               refine ⟨fun w' hw' => ?_, ?_⟩
               · try dsimp only at hw'
                 go_simp
                 exact ⟨rfl, rfl⟩
               go_simp
               refine hK _ _ ?_
               clear hK K)
            | (refine wpX_not ?_ (fun K hK => ?_)
               · rfl
               go_simp
               refine hK _ _ ?_
               clear hK K))
          refine wpX_nil (hQ' _ _ ?_)
          go_wp2
          go_ret2
          exact ⟨rfl, K3.out⟩
    · have q : (10 : Int) < xl.size := by omega
      have e : plainB xl = (0, false) := by unfold plainB; rw [if_neg hs]
      rw [e]
      clear e hs
      go_enter Tryd.func15, Tryd.ntmps15
      go_wp2_with (fail)
      refine (HC.out w H.out).mono ?_
      rintro e w1 ⟨rfl, hk⟩
      have K1 := Lib.hid (hk.alloc (.cells #[.int .i64 2, .string xl, .int .i64 xa, .int .i64 xb] 37))
      clear hk
      unfold nodeV
      go_wp2
      go_ret2
      exact ⟨rfl, K1.out⟩
  · rw [if_neg h2]
    have q : (xk == 2) = false := by simpa using h2
    go_enter Tryd.func15, Tryd.ntmps15
    go_wp2_with (fail)
    refine (HC.out w H.out).mono ?_
    rintro e w1 ⟨rfl, hk⟩
    have K1 := Lib.hid (hk.alloc (.cells #[.int .i64 xk, .string xl, .int .i64 xa, .int .i64 xb] 37))
    clear hk
    unfold nodeV
    go_wp2
    go_ret2
    exact ⟨rfl, K1.out⟩
end Go.Proofs.YtaifjojfmkcmjaaDoor.Term
