/-
  FrameReads, walked.
-/
import Derived.Test.YtaifjojfmkcmjaaDoorRt8
import Derived.Test.YtaifjojfmkcmjaaDoorAnch
namespace Go.Proofs.YtaifjojfmkcmjaaDoor.Term
open Go.RowKit Go.Sort Go.Proofs.YtaifjojfmkcmjaaDoorBase Go.Proofs.YtaifjojfmkcmjaaDoorLex2 Go.Proofs.YtaifjojfmkcmjaaDoor.Dec
set_option linter.unusedVariables false
set_option linter.unusedSimpArgs false

/-- A slice of terms that came in. -/
structure NodesIn (w : World) (A : Option Addr) (n : Nat) (l : List Node) : Prop where
  len : n = l.length
  max : n ≤ maxLen
  cell : 0 < n → ∃ g o, A = some ⟨g, o, none⟩ ∧ g < w.heap.size ∧ ∀ k x, l[k]? = some x → w.cell? ⟨g, o + k * 4, none⟩ = some (.int .i64 x.kind) ∧ w.cell? ⟨g, o + k * 4 + 1, none⟩ = some (.string x.label) ∧ w.cell? ⟨g, o + k * 4 + 2, none⟩ = some (.int .i64 x.a) ∧ w.cell? ⟨g, o + k * 4 + 3, none⟩ = some (.int .i64 x.b)
/-- A store with terms made. -/
def made (s : TS) (l : List Node) : TS := l.foldl (fun s n => (mk s n).2) s
theorem made_take {s : TS} {l : List Node} {k : Nat} {x : Node} (h : l[k]? = some x) : made s (l.take (k + 1)) = (mk (made s (l.take k)) x).2 := by
  rw [List.take_add_one, h]
  simp [made, List.foldl_append]
/-- A call leaves what was laid ahead of it, behind the store. -/
theorem TwoAt.call_by {w0 w w1 w2 : World} {p q : Nat} {s s2 r : TS} {f : Nat} {args : Array Value} {v : Value} (hT : TwoAt w0 w w1 p q s r) (hk2 : Kept w1 w2 (fun _ => False)) (hC : ∀ F1, SAt w0 w2 p F1 s → Calls Tryd.prog f args w2 fun e w' => e = .returned v ∧ TNext w0 w2 w' p F1 s2) : Calls Tryd.prog f args w2 fun e w' => e = .returned v ∧ TwoAt w0 w w' p q s2 r ∧ ∀ k c, w1.heap.size ≤ k → w2.heap[k]? = some c → w'.heap[k]? = some c := by
  obtain ⟨F, G, hs, hr, hd, hb, hk⟩ := hT
  refine (hC F (hs.kept hk2)).mono ?_
  rintro e w' ⟨rfl, hn⟩
  refine ⟨rfl, TwoAt.step (hs.kept hk2) (hr.kept hk2) hd hb (hk.trans hk2 (fun _ h => h.elim)) hn, fun k c hkl hc => ?_⟩
  obtain ⟨F2, s2', b2, k2⟩ := hn
  exact k2.blk hc (fun hF => by have := hs.at_.lt k hF; omega)
theorem cell_kept {w w' : World} (h : Kept w w' (fun _ => False)) {g o : Nat} {v : Value} (hc : w.cell? ⟨g, o, none⟩ = some v) : w'.cell? ⟨g, o, none⟩ = some v := by
  have hl := World.block_lt_of_cell? _ _ hc
  have e := h.block g hl (fun h => h)
  simp only [World.cell?, e] at *
  exact hc
set_option maxHeartbeats 1600000 in
set_option maxRecDepth 100000 in
theorem reads_any (A : Option Addr) (n c : Nat) (l : List Node) (key t : Int) (w : World) (hg : Gl w) (hr : NodesIn w A n l) (hz : ∀ x ∈ l, x.label.size ≤ 140737488351232) :
    Calls Tryd.prog 4 #[.slice A n c, .int .i64 key, .int .i64 t] w fun e w' => e = .returned (.bool true) ∧ Kept w w' (fun _ => False) := by
  have hn := hr.max
  unfold maxLen at hn
  have HG := Lib.hid hg
  have HR := Lib.hid hr
  have HZ := Lib.hid hz
  clear hg hr hz
  by_cases h300 : n ≤ 300
  · have q1 : ¬ (300 : Int) < n := by omega
    go_enter Tryd.func4, Tryd.ntmps4
    go_wp2_with (fail)
    refine (anchor_any w _ (Below.refl _ _) HG.out).mono ?_
    rintro e w1 ⟨rfl, hk⟩
    have K1 := Lib.hid hk
    clear hk
    go_wp2_with (fail)
    refine (stores_any w _ 3 (by decide) (K1.out.below (fun _ h => h.elim) (Nat.le_refl _)) HG.out).mono ?_
    rintro e w2 ⟨p, q, rfl, hT⟩
    have T1 := Lib.hid hT
    clear hT
    go_wp2
    go_loopw [47] (fun iv wr => ∃ k : Nat, k ≤ n ∧ iv = .int .i64 k ∧ TwoAt w w1 wr p q (made (storeN 3) (l.take k)) (made (storeN 3) (l.take k))) (fun iv _ => (n - intOf iv).toNat)
    case atStart => exact ⟨0, Nat.zero_le _, rfl, T1.out⟩
    case round =>
      obtain ⟨k, hk, rfl, hT⟩ := hrel
      have T2 := Lib.hid hT
      clear hT
      by_cases hlt : k < n
      · obtain ⟨g, o, rfl, hgl, hc⟩ := HR.out.cell (by omega)
        obtain ⟨x, hx⟩ : ∃ x, l[k]? = some x := ⟨_, List.getElem?_eq_getElem (by have := HR.out.len; omega)⟩
        have hsz : x.label.size ≤ 140737488351232 := HZ.out x (List.mem_of_getElem? hx)
        have HM := Lib.hid (made_take (s := storeN 3) hx)
        obtain ⟨e0, e1, e2, e3⟩ := hc k x hx
        obtain ⟨_, _, _, _, _, _, hk2⟩ := T2.out
        have K2 := Lib.hid (K1.out.trans hk2 (fun _ h => h.elim))
        have eb := K2.out.block g hgl (fun h => h)
        have g0 : wr.cell? ⟨g, o + k * 4, none⟩ = some (.int .i64 x.kind) := by simp only [World.cell?, eb] at *; exact e0
        have g1 : wr.cell? ⟨g, o + k * 4 + 1, none⟩ = some (.string x.label) := by simp only [World.cell?, eb] at *; exact e1
        have g2 : wr.cell? ⟨g, o + k * 4 + 2, none⟩ = some (.int .i64 x.a) := by simp only [World.cell?, eb] at *; exact e2
        have g3 : wr.cell? ⟨g, o + k * 4 + 3, none⟩ = some (.int .i64 x.b) := by simp only [World.cell?, eb] at *; exact e3
        obtain ⟨xk, xl, xa, xb⟩ := x
        simp only at g0 g1 g2 g3 hsz
        have ka := (Kept.refl wr (fun _ => False)).alloc (.cells #[.int .i64 xk, .string xl, .int .i64 xa, .int .i64 xb] 37)
        have KA := Lib.hid ka
        clear hk2 eb e0 e1 e2 e3 hc hgl hx ka
        have q0 : (0 : Int) ≤ k := by omega
        have q2 : (k : Int) < n := by omega
        have HSZ := Lib.hid hsz
        clear hsz
        go_wp2_with (fail)
        refine (T2.out.call_by KA.out fun F1 h1 => make_any w _ p F1 _ ⟨xk, xl, xa, xb⟩ h1 (by have := HSZ.out; simp only; omega)).mono ?_
        rintro e w4 ⟨rfl, hT, hB⟩
        have T4 := Lib.hid hT
        have nb := hB _ _ (Nat.le_refl _) (heap_alloc_new _ _)
        have c0 := cellOf (j := 0) nb
        have c1 := cellOf (j := 1) nb
        have c2 := cellOf (j := 2) nb
        have c3 := cellOf (j := 3) nb
        simp at c0 c1 c2 c3
        clear hT hB nb
        go_wp2_with (fail)
        refine (T4.out.rcall fun G1 h1 => rmake_any _ _ q G1 _ ⟨xk, xl, xa, xb⟩ h1).mono ?_
        rintro e w5 ⟨rfl, hT⟩
        have T5 := Lib.hid hT
        clear hT c0 c1 c2 c3
        rw [← HM.out] at T5
        go_wp2
        go_roundw
        case rel => exact ⟨k + 1, by omega, by go_num, T5.out⟩
        case measure => simp [intOf]; omega
      · have q2 : ¬ (k : Int) < n := by omega
        have hkn : l.take k = l := List.take_of_length_le (by have := HR.out.len; omega)
        rw [hkn] at T2
        clear hkn hlt hk
        obtain ⟨S, hS⟩ : ∃ S, made (storeN 3) l = S := ⟨_, rfl⟩
        rw [hS] at T2
        clear hS HR HZ
        obtain ⟨n1, hn1⟩ : ∃ x, (plainT S.nodes t).1 = x := ⟨_, rfl⟩
        obtain ⟨o1, ho1⟩ : ∃ x, (plainT S.nodes t).2 = x := ⟨_, rfl⟩
        have N1 := Lib.hid hn1
        have O1 := Lib.hid ho1
        clear hn1 ho1
        obtain ⟨⟨pp, opened⟩, hop⟩ : ∃ x, openT S.nodes key t = x := ⟨_, rfl⟩
        obtain ⟨res, hres⟩ : ∃ x, items S.nodes pp = x := ⟨_, rfl⟩
        have OP := Lib.hid hop
        have RES := Lib.hid hres
        clear hop hres
        cases res with
        | none =>
          have NO : Hid (pairT S.nodes key t = none) := Lib.hid (by unfold pairT; rw [OP.out]; simp only; rw [RES.out]; simp)
          have HD : Hid (headT S.nodes key t = ((0, 0), false)) := Lib.hid (by unfold headT; rw [NO.out])
          have TK : Hid (trunkT S.nodes key t = ((⟨#[]⟩, 0), false)) := Lib.hid (by unfold trunkT; rw [NO.out])
          go_wp2_with (fail)
          refine (T2.out.ask fun F1 h1 => plain_any w _ p F1 _ t h1).mono ?_
          rw [N1.out, O1.out]
          rintro e w3 ⟨rfl, -, hT⟩
          have T3 := Lib.hid hT
          clear hT
          go_wp2_with (fail)
          refine (T3.out.rask fun G1 h1 => rplain_any _ _ q G1 _ t h1).mono ?_
          rw [N1.out, O1.out]
          rintro e w4 ⟨rfl, -, hT⟩
          have T4 := Lib.hid hT
          clear hT
          go_wp2_with (fail)
          refine (T4.out.rask fun G1 h1 => ropen_any _ _ q G1 _ key t h1).mono ?_
          rw [OP.out]
          rintro e w5 ⟨rfl, -, hT⟩
          have T5 := Lib.hid hT
          clear hT
          go_wp2_with (fail)
          refine (T5.out.rask fun G1 h1 => ritems_any _ _ q G1 _ pp h1).mono ?_
          rw [RES.out]
          rintro e w6 ⟨hIV, -, hT⟩
          have T6 := Lib.hid hT
          clear hT
          unfold ItemsV at hIV
          simp only at hIV
          obtain rfl := hIV
          go_wp2_with (fail)
          refine (T6.out.ask fun F1 h1 => head_any w _ p F1 _ key t h1).mono ?_
          rw [HD.out]
          rintro e w7 ⟨rfl, -, hT⟩
          have T7 := Lib.hid hT
          clear hT
          go_wp2_with (fail)
          refine (T7.out.ask fun F1 h1 => trunk_any w _ p F1 _ key t h1).mono ?_
          rw [TK.out]
          rintro e w8 ⟨rfl, -, hT⟩
          have T8 := Lib.hid hT
          clear hT
          obtain ⟨_, _, _, _, _, _, hk8⟩ := T8.out
          have KE := Lib.hid (K1.out.trans hk8 (fun _ h => h.elim))
          clear hk8
          go_wp2
          all_goals go_ret
          all_goals exact ⟨by simp, KE.out⟩
        | some il =>
          by_cases h2 : opened = true ∧ il.length = 2
          · obtain ⟨ho, h2⟩ := h2
            subst ho
            obtain ⟨a, b, rfl⟩ : ∃ a b, il = [a, b] := by
              match il, h2 with
              | [a, b], _ => exact ⟨a, b, rfl⟩
            clear h2
            have NO : Hid (pairT S.nodes key t = some (a, b)) := Lib.hid (by
              unfold pairT
              rw [OP.out]
              simp only
              rw [RES.out]
              simp)
            have HD0 : headT S.nodes key t = (if (plainT S.nodes a).2 = true ∧ (plainT S.nodes b).2 = true then (((plainT S.nodes a).1, (plainT S.nodes b).1), true) else ((0, 0), false)) := by unfold headT; rw [NO.out]
            have TK0 : trunkT S.nodes key t = (if (getN S.nodes a).kind = 2 then (((getN S.nodes a).label, b), true) else ((⟨#[]⟩, 0), false)) := by unfold trunkT; rw [NO.out]
            obtain ⟨⟨x, xs⟩, hx⟩ : ∃ r, plainT S.nodes a = r := ⟨_, rfl⟩
            obtain ⟨⟨y, ys⟩, hy⟩ : ∃ r, plainT S.nodes b = r := ⟨_, rfl⟩
            obtain ⟨⟨xk, xl, xa, xb⟩, hk⟩ : ∃ r, getN S.nodes a = r := ⟨_, rfl⟩
            rw [hx, hy] at HD0
            rw [hk] at TK0
            simp only at HD0 TK0
            have PX := Lib.hid hx
            have PY := Lib.hid hy
            have GK := Lib.hid hk
            clear hx hy hk
            cases xs with
            | true =>
              cases ys with
              | true =>
                rw [if_pos ⟨rfl, rfl⟩] at HD0
                have HD := Lib.hid HD0
                clear HD0
                by_cases k2 : xk = 2
                · subst k2
                  rw [if_pos rfl] at TK0
                  have TK := Lib.hid TK0
                  clear TK0
                  go_wp2_with (fail)
                  refine (T2.out.ask fun F1 h1 => plain_any w _ p F1 _ t h1).mono ?_
                  rw [N1.out, O1.out]
                  rintro e w3 ⟨rfl, -, hT⟩
                  have T3 := Lib.hid hT
                  clear hT
                  go_wp2_with (fail)
                  refine (T3.out.rask fun G1 h1 => rplain_any _ _ q G1 _ t h1).mono ?_
                  rw [N1.out, O1.out]
                  rintro e w4 ⟨rfl, -, hT⟩
                  have T4 := Lib.hid hT
                  clear hT
                  go_wp2_with (fail)
                  refine (T4.out.rask fun G1 h1 => ropen_any _ _ q G1 _ key t h1).mono ?_
                  rw [OP.out]
                  rintro e w5 ⟨rfl, -, hT⟩
                  have T5 := Lib.hid hT
                  clear hT
                  go_wp2_with (fail)
                  refine (T5.out.rask fun G1 h1 => ritems_any _ _ q G1 _ pp h1).mono ?_
                  rw [RES.out]
                  rintro e w6 ⟨hIV, -, hT⟩
                  have T6 := Lib.hid hT
                  clear hT
                  unfold ItemsV at hIV
                  simp only at hIV
                  obtain ⟨v, rfl, hown, -⟩ := hIV
                  obtain ⟨gi, ci, rfl, -, hgi, hci, hcm, ca, cb⟩ := own_two hown
                  have CA := Lib.hid ca
                  have CB := Lib.hid cb
                  clear hown ca cb hgi
                  go_wp2_with (fail)
                  refine (T6.out.ask fun F1 h1 => head_any w _ p F1 _ key t h1).mono ?_
                  rw [HD.out]
                  rintro e w7 ⟨rfl, hk, hT⟩
                  have T7 := Lib.hid hT
                  have CA := Lib.hid (cell_kept hk CA.out)
                  have CB := Lib.hid (cell_kept hk CB.out)
                  clear hT hk
                  go_wp2_with (fail)
                  refine (T7.out.ask fun F1 h1 => trunk_any w _ p F1 _ key t h1).mono ?_
                  rw [TK.out]
                  rintro e w8 ⟨rfl, hk, hT⟩
                  have T8 := Lib.hid hT
                  have CA := Lib.hid (cell_kept hk CA.out)
                  have CB := Lib.hid (cell_kept hk CB.out)
                  clear hT hk
                  have ca := CA.out
                  go_wp2_with (fail)
                  refine (T8.out.rask fun G1 h1 => rplain_any _ _ q G1 _ a h1).mono ?_
                  rw [PX.out]
                  rintro e w9 ⟨rfl, hk, hT⟩
                  have T9 := Lib.hid hT
                  have CA := Lib.hid (cell_kept hk CA.out)
                  have CB := Lib.hid (cell_kept hk CB.out)
                  clear hT hk ca
                  have cb := CB.out
                  go_wp2_with (fail)
                  refine (T9.out.rask fun G1 h1 => rplain_any _ _ q G1 _ b h1).mono ?_
                  rw [PY.out]
                  rintro e w10 ⟨rfl, hk, hT⟩
                  have T10 := Lib.hid hT
                  have CA := Lib.hid (cell_kept hk CA.out)
                  have CB := Lib.hid (cell_kept hk CB.out)
                  clear hT hk cb
                  have ca := CA.out
                  go_wp2_with (fail)
                  refine (T10.out.rask fun G1 h1 => rget_any _ _ q G1 _ a h1).mono ?_
                  rw [GK.out]
                  rintro e w11 ⟨rfl, hk, hT⟩
                  have cz := cell_kept (hk.alloc (.cells #[.int .i64 2, .string xl, .int .i64 xa, .int .i64 xb] 37)) CB.out
                  clear ca hk
                  obtain ⟨_, _, _, _, _, _, hk8⟩ := hT
                  have KE := Lib.hid ((K1.out.trans hk8 (fun _ h => h.elim)).alloc (.cells #[.int .i64 2, .string xl, .int .i64 xa, .int .i64 xb] 37))
                  clear hk8
                  unfold nodeV
                  go_wp2
                  all_goals go_ret
                  all_goals exact ⟨by simp, KE.out⟩
                · have qk : (xk == 2) = false := by simpa using k2
                  rw [if_neg k2] at TK0
                  have TK := Lib.hid TK0
                  clear TK0 k2
                  go_wp2_with (fail)
                  refine (T2.out.ask fun F1 h1 => plain_any w _ p F1 _ t h1).mono ?_
                  rw [N1.out, O1.out]
                  rintro e w3 ⟨rfl, -, hT⟩
                  have T3 := Lib.hid hT
                  clear hT
                  go_wp2_with (fail)
                  refine (T3.out.rask fun G1 h1 => rplain_any _ _ q G1 _ t h1).mono ?_
                  rw [N1.out, O1.out]
                  rintro e w4 ⟨rfl, -, hT⟩
                  have T4 := Lib.hid hT
                  clear hT
                  go_wp2_with (fail)
                  refine (T4.out.rask fun G1 h1 => ropen_any _ _ q G1 _ key t h1).mono ?_
                  rw [OP.out]
                  rintro e w5 ⟨rfl, -, hT⟩
                  have T5 := Lib.hid hT
                  clear hT
                  go_wp2_with (fail)
                  refine (T5.out.rask fun G1 h1 => ritems_any _ _ q G1 _ pp h1).mono ?_
                  rw [RES.out]
                  rintro e w6 ⟨hIV, -, hT⟩
                  have T6 := Lib.hid hT
                  clear hT
                  unfold ItemsV at hIV
                  simp only at hIV
                  obtain ⟨v, rfl, hown, -⟩ := hIV
                  obtain ⟨gi, ci, rfl, -, hgi, hci, hcm, ca, cb⟩ := own_two hown
                  have CA := Lib.hid ca
                  have CB := Lib.hid cb
                  clear hown ca cb hgi
                  go_wp2_with (fail)
                  refine (T6.out.ask fun F1 h1 => head_any w _ p F1 _ key t h1).mono ?_
                  rw [HD.out]
                  rintro e w7 ⟨rfl, hk, hT⟩
                  have T7 := Lib.hid hT
                  have CA := Lib.hid (cell_kept hk CA.out)
                  have CB := Lib.hid (cell_kept hk CB.out)
                  clear hT hk
                  go_wp2_with (fail)
                  refine (T7.out.ask fun F1 h1 => trunk_any w _ p F1 _ key t h1).mono ?_
                  rw [TK.out]
                  rintro e w8 ⟨rfl, hk, hT⟩
                  have T8 := Lib.hid hT
                  have CA := Lib.hid (cell_kept hk CA.out)
                  have CB := Lib.hid (cell_kept hk CB.out)
                  clear hT hk
                  have ca := CA.out
                  go_wp2_with (fail)
                  refine (T8.out.rask fun G1 h1 => rplain_any _ _ q G1 _ a h1).mono ?_
                  rw [PX.out]
                  rintro e w9 ⟨rfl, hk, hT⟩
                  have T9 := Lib.hid hT
                  have CA := Lib.hid (cell_kept hk CA.out)
                  have CB := Lib.hid (cell_kept hk CB.out)
                  clear hT hk ca
                  have cb := CB.out
                  go_wp2_with (fail)
                  refine (T9.out.rask fun G1 h1 => rplain_any _ _ q G1 _ b h1).mono ?_
                  rw [PY.out]
                  rintro e w10 ⟨rfl, hk, hT⟩
                  have T10 := Lib.hid hT
                  have CA := Lib.hid (cell_kept hk CA.out)
                  have CB := Lib.hid (cell_kept hk CB.out)
                  clear hT hk cb
                  have ca := CA.out
                  go_wp2_with (fail)
                  refine (T10.out.rask fun G1 h1 => rget_any _ _ q G1 _ a h1).mono ?_
                  rw [GK.out]
                  rintro e w11 ⟨rfl, hk, hT⟩
                  have cz := cell_kept (hk.alloc (.cells #[.int .i64 xk, .string xl, .int .i64 xa, .int .i64 xb] 37)) CB.out
                  clear ca hk
                  obtain ⟨_, _, _, _, _, _, hk8⟩ := hT
                  have KE := Lib.hid ((K1.out.trans hk8 (fun _ h => h.elim)).alloc (.cells #[.int .i64 xk, .string xl, .int .i64 xa, .int .i64 xb] 37))
                  clear hk8
                  unfold nodeV
                  go_wp2
                  all_goals go_ret
                  all_goals exact ⟨by simp, KE.out⟩
              | false =>
                rw [if_neg (by simp)] at HD0
                have HD := Lib.hid HD0
                clear HD0
                by_cases k2 : xk = 2
                · subst k2
                  rw [if_pos rfl] at TK0
                  have TK := Lib.hid TK0
                  clear TK0
                  go_wp2_with (fail)
                  refine (T2.out.ask fun F1 h1 => plain_any w _ p F1 _ t h1).mono ?_
                  rw [N1.out, O1.out]
                  rintro e w3 ⟨rfl, -, hT⟩
                  have T3 := Lib.hid hT
                  clear hT
                  go_wp2_with (fail)
                  refine (T3.out.rask fun G1 h1 => rplain_any _ _ q G1 _ t h1).mono ?_
                  rw [N1.out, O1.out]
                  rintro e w4 ⟨rfl, -, hT⟩
                  have T4 := Lib.hid hT
                  clear hT
                  go_wp2_with (fail)
                  refine (T4.out.rask fun G1 h1 => ropen_any _ _ q G1 _ key t h1).mono ?_
                  rw [OP.out]
                  rintro e w5 ⟨rfl, -, hT⟩
                  have T5 := Lib.hid hT
                  clear hT
                  go_wp2_with (fail)
                  refine (T5.out.rask fun G1 h1 => ritems_any _ _ q G1 _ pp h1).mono ?_
                  rw [RES.out]
                  rintro e w6 ⟨hIV, -, hT⟩
                  have T6 := Lib.hid hT
                  clear hT
                  unfold ItemsV at hIV
                  simp only at hIV
                  obtain ⟨v, rfl, hown, -⟩ := hIV
                  obtain ⟨gi, ci, rfl, -, hgi, hci, hcm, ca, cb⟩ := own_two hown
                  have CA := Lib.hid ca
                  have CB := Lib.hid cb
                  clear hown ca cb hgi
                  go_wp2_with (fail)
                  refine (T6.out.ask fun F1 h1 => head_any w _ p F1 _ key t h1).mono ?_
                  rw [HD.out]
                  rintro e w7 ⟨rfl, hk, hT⟩
                  have T7 := Lib.hid hT
                  have CA := Lib.hid (cell_kept hk CA.out)
                  have CB := Lib.hid (cell_kept hk CB.out)
                  clear hT hk
                  go_wp2_with (fail)
                  refine (T7.out.ask fun F1 h1 => trunk_any w _ p F1 _ key t h1).mono ?_
                  rw [TK.out]
                  rintro e w8 ⟨rfl, hk, hT⟩
                  have T8 := Lib.hid hT
                  have CA := Lib.hid (cell_kept hk CA.out)
                  have CB := Lib.hid (cell_kept hk CB.out)
                  clear hT hk
                  have ca := CA.out
                  go_wp2_with (fail)
                  refine (T8.out.rask fun G1 h1 => rplain_any _ _ q G1 _ a h1).mono ?_
                  rw [PX.out]
                  rintro e w9 ⟨rfl, hk, hT⟩
                  have T9 := Lib.hid hT
                  have CA := Lib.hid (cell_kept hk CA.out)
                  have CB := Lib.hid (cell_kept hk CB.out)
                  clear hT hk ca
                  have cb := CB.out
                  go_wp2_with (fail)
                  refine (T9.out.rask fun G1 h1 => rplain_any _ _ q G1 _ b h1).mono ?_
                  rw [PY.out]
                  rintro e w10 ⟨rfl, hk, hT⟩
                  have T10 := Lib.hid hT
                  have CA := Lib.hid (cell_kept hk CA.out)
                  have CB := Lib.hid (cell_kept hk CB.out)
                  clear hT hk cb
                  have ca := CA.out
                  go_wp2_with (fail)
                  refine (T10.out.rask fun G1 h1 => rget_any _ _ q G1 _ a h1).mono ?_
                  rw [GK.out]
                  rintro e w11 ⟨rfl, hk, hT⟩
                  have cz := cell_kept (hk.alloc (.cells #[.int .i64 2, .string xl, .int .i64 xa, .int .i64 xb] 37)) CB.out
                  clear ca hk
                  obtain ⟨_, _, _, _, _, _, hk8⟩ := hT
                  have KE := Lib.hid ((K1.out.trans hk8 (fun _ h => h.elim)).alloc (.cells #[.int .i64 2, .string xl, .int .i64 xa, .int .i64 xb] 37))
                  clear hk8
                  unfold nodeV
                  go_wp2
                  all_goals go_ret
                  all_goals exact ⟨by simp, KE.out⟩
                · have qk : (xk == 2) = false := by simpa using k2
                  rw [if_neg k2] at TK0
                  have TK := Lib.hid TK0
                  clear TK0 k2
                  go_wp2_with (fail)
                  refine (T2.out.ask fun F1 h1 => plain_any w _ p F1 _ t h1).mono ?_
                  rw [N1.out, O1.out]
                  rintro e w3 ⟨rfl, -, hT⟩
                  have T3 := Lib.hid hT
                  clear hT
                  go_wp2_with (fail)
                  refine (T3.out.rask fun G1 h1 => rplain_any _ _ q G1 _ t h1).mono ?_
                  rw [N1.out, O1.out]
                  rintro e w4 ⟨rfl, -, hT⟩
                  have T4 := Lib.hid hT
                  clear hT
                  go_wp2_with (fail)
                  refine (T4.out.rask fun G1 h1 => ropen_any _ _ q G1 _ key t h1).mono ?_
                  rw [OP.out]
                  rintro e w5 ⟨rfl, -, hT⟩
                  have T5 := Lib.hid hT
                  clear hT
                  go_wp2_with (fail)
                  refine (T5.out.rask fun G1 h1 => ritems_any _ _ q G1 _ pp h1).mono ?_
                  rw [RES.out]
                  rintro e w6 ⟨hIV, -, hT⟩
                  have T6 := Lib.hid hT
                  clear hT
                  unfold ItemsV at hIV
                  simp only at hIV
                  obtain ⟨v, rfl, hown, -⟩ := hIV
                  obtain ⟨gi, ci, rfl, -, hgi, hci, hcm, ca, cb⟩ := own_two hown
                  have CA := Lib.hid ca
                  have CB := Lib.hid cb
                  clear hown ca cb hgi
                  go_wp2_with (fail)
                  refine (T6.out.ask fun F1 h1 => head_any w _ p F1 _ key t h1).mono ?_
                  rw [HD.out]
                  rintro e w7 ⟨rfl, hk, hT⟩
                  have T7 := Lib.hid hT
                  have CA := Lib.hid (cell_kept hk CA.out)
                  have CB := Lib.hid (cell_kept hk CB.out)
                  clear hT hk
                  go_wp2_with (fail)
                  refine (T7.out.ask fun F1 h1 => trunk_any w _ p F1 _ key t h1).mono ?_
                  rw [TK.out]
                  rintro e w8 ⟨rfl, hk, hT⟩
                  have T8 := Lib.hid hT
                  have CA := Lib.hid (cell_kept hk CA.out)
                  have CB := Lib.hid (cell_kept hk CB.out)
                  clear hT hk
                  have ca := CA.out
                  go_wp2_with (fail)
                  refine (T8.out.rask fun G1 h1 => rplain_any _ _ q G1 _ a h1).mono ?_
                  rw [PX.out]
                  rintro e w9 ⟨rfl, hk, hT⟩
                  have T9 := Lib.hid hT
                  have CA := Lib.hid (cell_kept hk CA.out)
                  have CB := Lib.hid (cell_kept hk CB.out)
                  clear hT hk ca
                  have cb := CB.out
                  go_wp2_with (fail)
                  refine (T9.out.rask fun G1 h1 => rplain_any _ _ q G1 _ b h1).mono ?_
                  rw [PY.out]
                  rintro e w10 ⟨rfl, hk, hT⟩
                  have T10 := Lib.hid hT
                  have CA := Lib.hid (cell_kept hk CA.out)
                  have CB := Lib.hid (cell_kept hk CB.out)
                  clear hT hk cb
                  have ca := CA.out
                  go_wp2_with (fail)
                  refine (T10.out.rask fun G1 h1 => rget_any _ _ q G1 _ a h1).mono ?_
                  rw [GK.out]
                  rintro e w11 ⟨rfl, hk, hT⟩
                  have cz := cell_kept (hk.alloc (.cells #[.int .i64 xk, .string xl, .int .i64 xa, .int .i64 xb] 37)) CB.out
                  clear ca hk
                  obtain ⟨_, _, _, _, _, _, hk8⟩ := hT
                  have KE := Lib.hid ((K1.out.trans hk8 (fun _ h => h.elim)).alloc (.cells #[.int .i64 xk, .string xl, .int .i64 xa, .int .i64 xb] 37))
                  clear hk8
                  unfold nodeV
                  go_wp2
                  all_goals go_ret
                  all_goals exact ⟨by simp, KE.out⟩
            | false =>
              rw [if_neg (by simp)] at HD0
              have HD := Lib.hid HD0
              clear HD0
              by_cases k2 : xk = 2
              · subst k2
                rw [if_pos rfl] at TK0
                have TK := Lib.hid TK0
                clear TK0
                go_wp2_with (fail)
                refine (T2.out.ask fun F1 h1 => plain_any w _ p F1 _ t h1).mono ?_
                rw [N1.out, O1.out]
                rintro e w3 ⟨rfl, -, hT⟩
                have T3 := Lib.hid hT
                clear hT
                go_wp2_with (fail)
                refine (T3.out.rask fun G1 h1 => rplain_any _ _ q G1 _ t h1).mono ?_
                rw [N1.out, O1.out]
                rintro e w4 ⟨rfl, -, hT⟩
                have T4 := Lib.hid hT
                clear hT
                go_wp2_with (fail)
                refine (T4.out.rask fun G1 h1 => ropen_any _ _ q G1 _ key t h1).mono ?_
                rw [OP.out]
                rintro e w5 ⟨rfl, -, hT⟩
                have T5 := Lib.hid hT
                clear hT
                go_wp2_with (fail)
                refine (T5.out.rask fun G1 h1 => ritems_any _ _ q G1 _ pp h1).mono ?_
                rw [RES.out]
                rintro e w6 ⟨hIV, -, hT⟩
                have T6 := Lib.hid hT
                clear hT
                unfold ItemsV at hIV
                simp only at hIV
                obtain ⟨v, rfl, hown, -⟩ := hIV
                obtain ⟨gi, ci, rfl, -, hgi, hci, hcm, ca, cb⟩ := own_two hown
                have CA := Lib.hid ca
                have CB := Lib.hid cb
                clear hown ca cb hgi
                go_wp2_with (fail)
                refine (T6.out.ask fun F1 h1 => head_any w _ p F1 _ key t h1).mono ?_
                rw [HD.out]
                rintro e w7 ⟨rfl, hk, hT⟩
                have T7 := Lib.hid hT
                have CA := Lib.hid (cell_kept hk CA.out)
                have CB := Lib.hid (cell_kept hk CB.out)
                clear hT hk
                go_wp2_with (fail)
                refine (T7.out.ask fun F1 h1 => trunk_any w _ p F1 _ key t h1).mono ?_
                rw [TK.out]
                rintro e w8 ⟨rfl, hk, hT⟩
                have T8 := Lib.hid hT
                have CA := Lib.hid (cell_kept hk CA.out)
                have CB := Lib.hid (cell_kept hk CB.out)
                clear hT hk
                have ca := CA.out
                go_wp2_with (fail)
                refine (T8.out.rask fun G1 h1 => rplain_any _ _ q G1 _ a h1).mono ?_
                rw [PX.out]
                rintro e w9 ⟨rfl, hk, hT⟩
                have T9 := Lib.hid hT
                have CA := Lib.hid (cell_kept hk CA.out)
                have CB := Lib.hid (cell_kept hk CB.out)
                clear hT hk ca
                have cb := CB.out
                go_wp2_with (fail)
                refine (T9.out.rask fun G1 h1 => rplain_any _ _ q G1 _ b h1).mono ?_
                rw [PY.out]
                rintro e w10 ⟨rfl, hk, hT⟩
                have T10 := Lib.hid hT
                have CA := Lib.hid (cell_kept hk CA.out)
                have CB := Lib.hid (cell_kept hk CB.out)
                clear hT hk cb
                have ca := CA.out
                go_wp2_with (fail)
                refine (T10.out.rask fun G1 h1 => rget_any _ _ q G1 _ a h1).mono ?_
                rw [GK.out]
                rintro e w11 ⟨rfl, hk, hT⟩
                have cz := cell_kept (hk.alloc (.cells #[.int .i64 2, .string xl, .int .i64 xa, .int .i64 xb] 37)) CB.out
                clear ca hk
                obtain ⟨_, _, _, _, _, _, hk8⟩ := hT
                have KE := Lib.hid ((K1.out.trans hk8 (fun _ h => h.elim)).alloc (.cells #[.int .i64 2, .string xl, .int .i64 xa, .int .i64 xb] 37))
                clear hk8
                unfold nodeV
                go_wp2
                all_goals go_ret
                all_goals exact ⟨by simp, KE.out⟩
              · have qk : (xk == 2) = false := by simpa using k2
                rw [if_neg k2] at TK0
                have TK := Lib.hid TK0
                clear TK0 k2
                go_wp2_with (fail)
                refine (T2.out.ask fun F1 h1 => plain_any w _ p F1 _ t h1).mono ?_
                rw [N1.out, O1.out]
                rintro e w3 ⟨rfl, -, hT⟩
                have T3 := Lib.hid hT
                clear hT
                go_wp2_with (fail)
                refine (T3.out.rask fun G1 h1 => rplain_any _ _ q G1 _ t h1).mono ?_
                rw [N1.out, O1.out]
                rintro e w4 ⟨rfl, -, hT⟩
                have T4 := Lib.hid hT
                clear hT
                go_wp2_with (fail)
                refine (T4.out.rask fun G1 h1 => ropen_any _ _ q G1 _ key t h1).mono ?_
                rw [OP.out]
                rintro e w5 ⟨rfl, -, hT⟩
                have T5 := Lib.hid hT
                clear hT
                go_wp2_with (fail)
                refine (T5.out.rask fun G1 h1 => ritems_any _ _ q G1 _ pp h1).mono ?_
                rw [RES.out]
                rintro e w6 ⟨hIV, -, hT⟩
                have T6 := Lib.hid hT
                clear hT
                unfold ItemsV at hIV
                simp only at hIV
                obtain ⟨v, rfl, hown, -⟩ := hIV
                obtain ⟨gi, ci, rfl, -, hgi, hci, hcm, ca, cb⟩ := own_two hown
                have CA := Lib.hid ca
                have CB := Lib.hid cb
                clear hown ca cb hgi
                go_wp2_with (fail)
                refine (T6.out.ask fun F1 h1 => head_any w _ p F1 _ key t h1).mono ?_
                rw [HD.out]
                rintro e w7 ⟨rfl, hk, hT⟩
                have T7 := Lib.hid hT
                have CA := Lib.hid (cell_kept hk CA.out)
                have CB := Lib.hid (cell_kept hk CB.out)
                clear hT hk
                go_wp2_with (fail)
                refine (T7.out.ask fun F1 h1 => trunk_any w _ p F1 _ key t h1).mono ?_
                rw [TK.out]
                rintro e w8 ⟨rfl, hk, hT⟩
                have T8 := Lib.hid hT
                have CA := Lib.hid (cell_kept hk CA.out)
                have CB := Lib.hid (cell_kept hk CB.out)
                clear hT hk
                have ca := CA.out
                go_wp2_with (fail)
                refine (T8.out.rask fun G1 h1 => rplain_any _ _ q G1 _ a h1).mono ?_
                rw [PX.out]
                rintro e w9 ⟨rfl, hk, hT⟩
                have T9 := Lib.hid hT
                have CA := Lib.hid (cell_kept hk CA.out)
                have CB := Lib.hid (cell_kept hk CB.out)
                clear hT hk ca
                have cb := CB.out
                go_wp2_with (fail)
                refine (T9.out.rask fun G1 h1 => rplain_any _ _ q G1 _ b h1).mono ?_
                rw [PY.out]
                rintro e w10 ⟨rfl, hk, hT⟩
                have T10 := Lib.hid hT
                have CA := Lib.hid (cell_kept hk CA.out)
                have CB := Lib.hid (cell_kept hk CB.out)
                clear hT hk cb
                have ca := CA.out
                go_wp2_with (fail)
                refine (T10.out.rask fun G1 h1 => rget_any _ _ q G1 _ a h1).mono ?_
                rw [GK.out]
                rintro e w11 ⟨rfl, hk, hT⟩
                have cz := cell_kept (hk.alloc (.cells #[.int .i64 xk, .string xl, .int .i64 xa, .int .i64 xb] 37)) CB.out
                clear ca hk
                obtain ⟨_, _, _, _, _, _, hk8⟩ := hT
                have KE := Lib.hid ((K1.out.trans hk8 (fun _ h => h.elim)).alloc (.cells #[.int .i64 xk, .string xl, .int .i64 xa, .int .i64 xb] 37))
                clear hk8
                unfold nodeV
                go_wp2
                all_goals go_ret
                all_goals exact ⟨by simp, KE.out⟩
          · have NO : Hid (pairT S.nodes key t = none) := Lib.hid (by
              unfold pairT
              rw [OP.out]
              simp only
              rw [RES.out]
              by_cases ho : opened = true
              · rw [if_pos ho]
                match il, h2 with
                | [], _ => rfl
                | [a], _ => rfl
                | [a, b], h2 => exact absurd ⟨ho, rfl⟩ h2
                | a :: b :: d :: m, _ => rfl
              · rw [if_neg ho])
            have HD : Hid (headT S.nodes key t = ((0, 0), false)) := Lib.hid (by unfold headT; rw [NO.out])
            have TK : Hid (trunkT S.nodes key t = ((⟨#[]⟩, 0), false)) := Lib.hid (by unfold trunkT; rw [NO.out])
            go_wp2_with (fail)
            refine (T2.out.ask fun F1 h1 => plain_any w _ p F1 _ t h1).mono ?_
            rw [N1.out, O1.out]
            rintro e w3 ⟨rfl, -, hT⟩
            have T3 := Lib.hid hT
            clear hT
            go_wp2_with (fail)
            refine (T3.out.rask fun G1 h1 => rplain_any _ _ q G1 _ t h1).mono ?_
            rw [N1.out, O1.out]
            rintro e w4 ⟨rfl, -, hT⟩
            have T4 := Lib.hid hT
            clear hT
            go_wp2_with (fail)
            refine (T4.out.rask fun G1 h1 => ropen_any _ _ q G1 _ key t h1).mono ?_
            rw [OP.out]
            rintro e w5 ⟨rfl, -, hT⟩
            have T5 := Lib.hid hT
            clear hT
            go_wp2_with (fail)
            refine (T5.out.rask fun G1 h1 => ritems_any _ _ q G1 _ pp h1).mono ?_
            rw [RES.out]
            rintro e w6 ⟨hIV, -, hT⟩
            have T6 := Lib.hid hT
            clear hT
            unfold ItemsV at hIV
            simp only at hIV
            obtain ⟨v, rfl, hown, hle⟩ := hIV
            obtain ⟨sa, sc, rfl, hsc, hsm⟩ := own_slice hown
            clear hown
            go_wp2_with (fail)
            refine (T6.out.ask fun F1 h1 => head_any w _ p F1 _ key t h1).mono ?_
            rw [HD.out]
            rintro e w7 ⟨rfl, -, hT⟩
            have T7 := Lib.hid hT
            clear hT
            go_wp2_with (fail)
            refine (T7.out.ask fun F1 h1 => trunk_any w _ p F1 _ key t h1).mono ?_
            rw [TK.out]
            rintro e w8 ⟨rfl, -, hT⟩
            have T8 := Lib.hid hT
            clear hT
            by_cases ho : opened = true
            · have ql : ((il.length : Int) == 2) = false := by
                have : ¬ il.length = 2 := fun e => h2 ⟨ho, e⟩
                simp
                omega
              subst ho
              clear h2
              obtain ⟨_, _, _, _, _, _, hk8⟩ := T8.out
              have KE := Lib.hid (K1.out.trans hk8 (fun _ h => h.elim))
              clear hk8
              go_wp2
              all_goals go_ret
              all_goals exact ⟨by simp, KE.out⟩
            · have ho : opened = false := by simpa using ho
              subst ho
              clear h2
              obtain ⟨_, _, _, _, _, _, hk8⟩ := T8.out
              have KE := Lib.hid (K1.out.trans hk8 (fun _ h => h.elim))
              clear hk8
              go_wp2
              all_goals go_ret
              all_goals exact ⟨by simp, KE.out⟩
  · have q1 : (300 : Int) < n := by omega
    go_enter Tryd.func4, Tryd.ntmps4
    go_wp2_with (fail)
    refine (anchor_any w _ (Below.refl _ _) HG.out).mono ?_
    rintro e w1 ⟨rfl, hk⟩
    have K1 := Lib.hid hk
    clear hk
    go_wp2
    go_ret
    exact ⟨rfl, K1.out⟩
theorem reads_row (A : Option Addr) (n c : Nat) (key t : Int) (l : List Node) (w : World) (hg : Gl w) (hr : NodesIn w A n l) (hz : ∀ x ∈ l, x.label.size ≤ 140737488351232) :
    Calls Tryd.prog 4 #[.slice A n c, .int .i64 key, .int .i64 t] w fun e w' => e = .returned (.bool true) ∧ Below w.heap.size w w' := by
  refine (reads_any A n c l key t w hg hr hz).mono ?_
  rintro e w' ⟨rfl, hk⟩
  exact ⟨rfl, hk.below (fun _ h => h.elim) (Nat.le_refl _)⟩
end Go.Proofs.YtaifjojfmkcmjaaDoor.Term
