/-
  Commits' bodies: a path's body, a commit's body, walked.
-/
import Derived.Test.YtaifjojfmkcmjaaDoorBd6
namespace Go.Proofs.YtaifjojfmkcmjaaDoor.Term
open Go.RowKit Go.Sort Go.Proofs.YtaifjojfmkcmjaaDoorBase Go.Proofs.YtaifjojfmkcmjaaDoorLex2 Go.Proofs.YtaifjojfmkcmjaaDoor.Dec
set_option linter.unusedVariables false
set_option linter.unusedSimpArgs false

def pathT (s : TS) (keys : List Int) (boxes : List (List Int)) : Nat × TS :=
  listT (listedT listT (listT s keys).2 boxes).2 [3, 4, ((listT s keys).1 : Int), ((listedT listT (listT s keys).2 boxes).1 : Int)]
def pathV (C D : Option Addr) (n m cc cd : Nat) : Value := .agg #[.int .i64 3, .int .i64 4, .slice C n cc, .slice D m cd]
/-- A path's cells. -/
def PathC (w : World) (q : Nat) (C D : Option Addr) (n m cc cd : Nat) : Prop := w.cell? ⟨q, 0, none⟩ = some (.int .i64 3) ∧ w.cell? ⟨q, 1, none⟩ = some (.int .i64 4) ∧ w.cell? ⟨q, 2, none⟩ = some (.slice C n cc) ∧ w.cell? ⟨q, 3, none⟩ = some (.slice D m cd)
theorem PathC.next {w w2 : World} {F : Nat → Prop} {q : Nat} {C D : Option Addr} {n m cc cd : Nat} (h : PathC w q C D n m cc cd) (ho : Out w F q) (hk : Kept w w2 F) : PathC w2 q C D n m cc cd := by
  have e := hk.block q ho.1 ho.2
  unfold PathC at *
  simp only [World.cell?, e] at *
  exact h
set_option maxHeartbeats 3200000 in
set_option maxRecDepth 100000 in
theorem path_any (wz w0 w : World) (p : Nat) (F : Nat → Prop) (s : TS) (keys : List Int) (boxes : List (List Int)) (C D : Option Addr) (cc cd : Nat) (h : SAt w0 w p F s) (ho : Old wz w F) (hk : RowIn wz C keys.length (ic keys)) (hb : BoxesIn wz D boxes) (hn : boxes.length ≤ 20) :
    Calls Tryd.prog 51 #[.pointer (some ⟨p, 0, none⟩), pathV C D keys.length boxes.length cc cd] w fun e w' => e = .returned (.int .i64 (pathT s keys boxes).1) ∧ TNext w0 w w' p F (pathT s keys boxes).2 := by
  have ka := (Kept.refl w (fun _ => False)).alloc (.cells #[.int .i64 3, .int .i64 4, .slice C keys.length cc, .slice D boxes.length cd] 65)
  have hb0 := heap_alloc_new w (.cells #[.int .i64 3, .int .i64 4, .slice C keys.length cc, .slice D boxes.length cd] 65)
  have PC : Hid (PathC (w.alloc (.cells #[.int .i64 3, .int .i64 4, .slice C keys.length cc, .slice D boxes.length cd] 65)) w.heap.size C D keys.length boxes.length cc cd) := Lib.hid ⟨cellOf hb0, cellOf hb0, cellOf hb0, cellOf hb0⟩
  have OA := Lib.hid (Out.new (w1 := w) h (o := .cells #[.int .i64 3, .int .i64 4, .slice C keys.length cc, .slice D boxes.length cd] 65))
  have S0 := Lib.hid (h.kept ka)
  have HO := Lib.hid (show Old wz (w.alloc (.cells #[.int .i64 3, .int .i64 4, .slice C keys.length cc, .slice D boxes.length cd] 65)) F from ⟨ho.1.trans ka (fun _ h => h.elim), ho.2⟩)
  have KA := Lib.hid ka
  have HK := Lib.hid hk
  have HB := Lib.hid hb
  have HN := Lib.hid hn
  obtain ⟨wa, hwa⟩ : ∃ wa, w.alloc (.cells #[.int .i64 3, .int .i64 4, .slice C keys.length cc, .slice D boxes.length cd] 65) = wa := ⟨_, rfl⟩
  obtain ⟨q, hq⟩ : ∃ q, w.heap.size = q := ⟨_, rfl⟩
  rw [hwa] at PC OA S0 HO KA
  rw [hq] at PC OA
  clear h ho hk hb hn ka hb0
  obtain ⟨⟨t1, s1⟩, h1⟩ : ∃ r, listT s keys = r := ⟨_, rfl⟩
  obtain ⟨⟨t2, s2⟩, h2⟩ : ∃ r, listedT listT s1 boxes = r := ⟨_, rfl⟩
  have RT : Hid (pathT s keys boxes = listT s2 [3, 4, (t1 : Int), (t2 : Int)]) := Lib.hid (by unfold pathT; rw [h1]; simp only; rw [h2])
  have H1 := Lib.hid h1
  have H2 := Lib.hid h2
  clear h1 h2
  unfold pathV
  go_enter Tryd.func51, Tryd.ntmps51
  go_wp2
  clear hwa hq
  refine wp_region_lex (fun w' => PathC w' q C D keys.length boxes.length cc cd) [0, 0, 3, 0, 3, 0, 0, 1, 2, 0, 0, 3, 0, 0, 2, 4, 4, 0] (by kernel_rfl) (by kernel_rfl) (by kernel_rfl) (PC.out) (fun Q' hQ' => ?_)
  simp only [List.zip_cons_cons, List.zip_nil_right]
  unfold PathC
  obtain ⟨c0, c1, c2, c3⟩ := PC.out
  repeat (first
    | (refine wpX_silent ?_ (fun K hK => ?_)
       · rfl
       apply Exists.intro
       refine ⟨fun w' => ?_, ?_⟩
       · go_simp
         exact ⟨rfl, rfl⟩
       go_simp
       refine hK _ _ ?_
       clear hK K)
    | (refine wpX_read ?_ (fun K hK => ?_)
       · rfl
       apply Exists.intro
       refine ⟨?_, ?_⟩
       · go_simp
         exact ⟨rfl, rfl⟩
       go_simp
       refine hK _ _ ?_
       clear hK K)
    | (refine wpX_float ?_ (fun K hK => ?_)
       · rfl
       apply Exists.intro
       refine ⟨fun w' hw' => ?_, ?_⟩
       · try dsimp only at hw'
         go_simp
         exact ⟨rfl, rfl⟩
       go_simp
       refine hK _ _ ?_
       clear hK K)
    | (refine wpX_not ?_ (fun K hK => ?_)
       · rfl
       go_simp
       refine hK _ _ ?_
       clear hK K))
  refine wpX_keeps ?_ (fun K hK => ?_)
  · rfl
  go_wp2_with (fail)
  refine (list_old wz w0 _ p F s keys C cc (S0.out.kept (Kept.refl _ _).drew) ⟨HO.out.1.drew, HO.out.2⟩ HK.out).mono ?_
  rw [H1.out]
  rintro e w1 ⟨rfl, F1, s1', b1, k1⟩
  have k1' : Kept wa w1 F := ((Kept.refl wa F).drew).trans k1 (fun _ h => .inl h)
  have b1' : ∀ k, F1 k → F k ∨ wa.heap.size ≤ k := b1
  have S1 := Lib.hid s1'
  have HO := Lib.hid (HO.out.next b1' k1')
  have PC := Lib.hid (PC.out.next OA.out k1')
  have OA := Lib.hid (OA.out.next b1' k1')
  have B1 := Lib.hid b1'
  have K1 := Lib.hid k1'
  clear s1' b1 k1 b1' k1' c0 c1 c2 c3
  go_simp
  refine hK _ _ ⟨rfl, PC.out, ?_⟩
  clear hK K
  obtain ⟨c0, c1, c2, c3⟩ := PC.out
  repeat (first
    | (refine wpX_silent ?_ (fun K hK => ?_)
       · rfl
       apply Exists.intro
       refine ⟨fun w' => ?_, ?_⟩
       · go_simp
         exact ⟨rfl, rfl⟩
       go_simp
       refine hK _ _ ?_
       clear hK K)
    | (refine wpX_read ?_ (fun K hK => ?_)
       · rfl
       apply Exists.intro
       refine ⟨?_, ?_⟩
       · go_simp
         exact ⟨rfl, rfl⟩
       go_simp
       refine hK _ _ ?_
       clear hK K)
    | (refine wpX_float ?_ (fun K hK => ?_)
       · rfl
       apply Exists.intro
       refine ⟨fun w' hw' => ?_, ?_⟩
       · try dsimp only at hw'
         go_simp
         exact ⟨rfl, rfl⟩
       go_simp
       refine hK _ _ ?_
       clear hK K)
    | (refine wpX_not ?_ (fun K hK => ?_)
       · rfl
       go_simp
       refine hK _ _ ?_
       clear hK K))
  refine wpX_keeps ?_ (fun K hK => ?_)
  · rfl
  go_wp2_with (fail)
  refine (listedB_any wz w0 w1 p F1 s1 boxes D cd S1.out HO.out HB.out HN.out).mono ?_
  rw [H2.out]
  rintro e w2 ⟨rfl, F2, s2', b2, k2⟩
  have S2 := Lib.hid s2'
  have PC := Lib.hid (PC.out.next OA.out k2)
  have E2 := Lib.hid (chain B1.out K1.out b2 k2)
  clear s2' b2 k2 c0 c1 c2 c3
  go_simp
  refine hK _ _ ⟨rfl, PC.out, ?_⟩
  clear hK K
  obtain ⟨c0, c1, c2, c3⟩ := PC.out
  repeat (first
    | (refine wpX_silent ?_ (fun K hK => ?_)
       · rfl
       apply Exists.intro
       refine ⟨fun w' => ?_, ?_⟩
       · go_simp
         exact ⟨rfl, rfl⟩
       go_simp
       refine hK _ _ ?_
       clear hK K)
    | (refine wpX_read ?_ (fun K hK => ?_)
       · rfl
       apply Exists.intro
       refine ⟨?_, ?_⟩
       · go_simp
         exact ⟨rfl, rfl⟩
       go_simp
       refine hK _ _ ?_
       clear hK K)
    | (refine wpX_float ?_ (fun K hK => ?_)
       · rfl
       apply Exists.intro
       refine ⟨fun w' hw' => ?_, ?_⟩
       · try dsimp only at hw'
         go_simp
         exact ⟨rfl, rfl⟩
       go_simp
       refine hK _ _ ?_
       clear hK K)
    | (refine wpX_not ?_ (fun K hK => ?_)
       · rfl
       go_simp
       refine hK _ _ ?_
       clear hK K))
  refine wpX_heavy ?_ (fun K hK => ?_)
  · rfl
  go_wp2
  repeat (first
    | (refine wpX_silent ?_ (fun K hK => ?_)
       · rfl
       apply Exists.intro
       refine ⟨fun w' => ?_, ?_⟩
       · go_simp
         exact ⟨rfl, rfl⟩
       go_simp
       refine hK _ _ ?_
       clear hK K)
    | (refine wpX_read ?_ (fun K hK => ?_)
       · rfl
       apply Exists.intro
       refine ⟨?_, ?_⟩
       · go_simp
         exact ⟨rfl, rfl⟩
       go_simp
       refine hK _ _ ?_
       clear hK K)
    | (refine wpX_float ?_ (fun K hK => ?_)
       · rfl
       apply Exists.intro
       refine ⟨fun w' hw' => ?_, ?_⟩
       · try dsimp only at hw'
         go_simp
         exact ⟨rfl, rfl⟩
       go_simp
       refine hK _ _ ?_
       clear hK K)
    | (refine wpX_not ?_ (fun K hK => ?_)
       · rfl
       go_simp
       refine hK _ _ ?_
       clear hK K))
  refine wpX_heavy ?_ (fun K hK => ?_)
  · rfl
  go_wp2_with (fail)
  refine (list_new w0 w2 p F2 s2 [3, 4, (t1 : Int), (t2 : Int)] S2.out (by simp only [List.length_cons, List.length_nil]; decide)).mono ?_
  rw [← RT.out]
  rintro e w3 ⟨rfl, F3, s3, b3, k3⟩
  have E3 := Lib.hid (chain E2.out.1 E2.out.2 b3 k3)
  have S3 := Lib.hid s3
  clear s3 b3 k3 c0 c1 c2 c3
  go_simp
  refine hK _ _ ⟨rfl, ?_⟩
  clear hK K
  repeat (first
    | (refine wpX_silent ?_ (fun K hK => ?_)
       · rfl
       apply Exists.intro
       refine ⟨fun w' => ?_, ?_⟩
       · go_simp
         exact ⟨rfl, rfl⟩
       go_simp
       refine hK _ _ ?_
       clear hK K)
    | (refine wpX_read ?_ (fun K hK => ?_)
       · rfl
       apply Exists.intro
       refine ⟨?_, ?_⟩
       · go_simp
         exact ⟨rfl, rfl⟩
       go_simp
       refine hK _ _ ?_
       clear hK K)
    | (refine wpX_float ?_ (fun K hK => ?_)
       · rfl
       apply Exists.intro
       refine ⟨fun w' hw' => ?_, ?_⟩
       · try dsimp only at hw'
         go_simp
         exact ⟨rfl, rfl⟩
       go_simp
       refine hK _ _ ?_
       clear hK K)
    | (refine wpX_not ?_ (fun K hK => ?_)
       · rfl
       go_simp
       refine hK _ _ ?_
       clear hK K))
  refine wpX_nil (hQ' _ _ ?_)
  go_wp2
  go_ret
  exact ⟨rfl, TNext.after KA.out ⟨F3, S3.out, E3.out⟩⟩
end Go.Proofs.YtaifjojfmkcmjaaDoor.Term
