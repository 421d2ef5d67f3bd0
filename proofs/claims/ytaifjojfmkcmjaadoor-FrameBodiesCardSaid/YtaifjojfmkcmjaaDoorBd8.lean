/-
  Commits' bodies, walked.
-/
import Derived.Test.YtaifjojfmkcmjaaDoorBd7
namespace Go.Proofs.YtaifjojfmkcmjaaDoor.Term
open Go.RowKit Go.Sort Go.Proofs.YtaifjojfmkcmjaaDoorBase Go.Proofs.YtaifjojfmkcmjaaDoorLex2 Go.Proofs.YtaifjojfmkcmjaaDoor.Dec
set_option linter.unusedVariables false
set_option linter.unusedSimpArgs false

def pathP (s : TS) (keys : List Int) (boxes : List (List Int)) (has : Bool) : Nat × TS := if has then pathT (put s empty).2 keys boxes else put s empty
def commitT (s : TS) (b : BodyD) : Nat × TS :=
  listT (listT (listedT remT (pathP s b.keys b.boxes b.has).2 b.rem).2 b.refs).2 [((listedT remT (pathP s b.keys b.boxes b.has).2 b.rem).1 : Int), ((listT (listedT remT (pathP s b.keys b.boxes b.has).2 b.rem).2 b.refs).1 : Int), ((pathP s b.keys b.boxes b.has).1 : Int)]
set_option maxHeartbeats 3200000 in
set_option maxRecDepth 100000 in
theorem commit_any (wz w0 w : World) (p : Nat) (F : Nat → Prop) (s : TS) (A B C D : Option Addr) (ca cb cc cd : Nat) (rem refs keys : List Int) (boxes : List (List Int)) (has : Bool) (h : SAt w0 w p F s) (ho : Old wz w F) (hp : PropsIn w F A rem) (hr : RowIn wz B refs.length (ic refs)) (hk : RowIn wz C keys.length (ic keys)) (hb : BoxesIn wz D boxes) (hn : boxes.length ≤ 20) (hm : rem.length ≤ 20) (hi : ∀ x ∈ rem, I64 x) :
    Calls Tryd.prog 27 #[.pointer (some ⟨p, 0, none⟩), .slice A rem.length ca, .slice B refs.length cb, pathV C D keys.length boxes.length cc cd, .bool has] w fun e w' => e = .returned (.int .i64 (commitT s ⟨rem, refs, keys, boxes, has⟩).1) ∧ TNext w0 w w' p F (commitT s ⟨rem, refs, keys, boxes, has⟩).2 := by
  have ka := ((Kept.refl w (fun _ => False)).alloc (.cells #[.pointer (some ⟨p, 0, none⟩)] 24)).alloc (.cells #[.int .i64 3, .int .i64 4, .slice C keys.length cc, .slice D boxes.length cd] 65)
  have hb1 := heap_alloc_new (w.alloc (.cells #[.pointer (some ⟨p, 0, none⟩)] 24)) (.cells #[.int .i64 3, .int .i64 4, .slice C keys.length cc, .slice D boxes.length cd] 65)
  have hb0 := (Below.heap_alloc (w.alloc (.cells #[.pointer (some ⟨p, 0, none⟩)] 24)) (.cells #[.int .i64 3, .int .i64 4, .slice C keys.length cc, .slice D boxes.length cd] 65) w.heap.size (by simp)).trans (heap_alloc_new w (.cells #[.pointer (some ⟨p, 0, none⟩)] 24))
  have e1 : (w.alloc (.cells #[.pointer (some ⟨p, 0, none⟩)] 24)).heap.size = w.heap.size + 1 := by simp
  rw [e1] at hb1
  obtain ⟨wa, hwa⟩ : ∃ wa, (w.alloc (.cells #[.pointer (some ⟨p, 0, none⟩)] 24)).alloc (.cells #[.int .i64 3, .int .i64 4, .slice C keys.length cc, .slice D boxes.length cd] 65) = wa := ⟨_, rfl⟩
  obtain ⟨q, hq⟩ : ∃ q, w.heap.size = q := ⟨_, rfl⟩
  have nq : ∀ k, F k → k < q := fun k hF => by have := h.at_.lt k hF; omega
  rw [hwa] at ka hb0 hb1
  rw [hq] at hb0 hb1
  have PC : Hid (PathC wa (q + 1) C D keys.length boxes.length cc cd) := Lib.hid ⟨cellOf hb1, cellOf hb1, cellOf hb1, cellOf hb1⟩
  have OP : Hid (Out wa F (q + 1)) := Lib.hid ⟨blk_lt hb1, fun hF => by have := nq _ hF; omega⟩
  have CI : Hid (CellIn wa F q (.pointer (some ⟨p, 0, none⟩))) := Lib.hid ⟨⟨blk_lt hb0, fun hF => by have := nq _ hF; omega⟩, cellOf hb0⟩
  have S0 := Lib.hid (h.kept ka)
  have HO : Hid (Old wz wa F) := Lib.hid ⟨ho.1.trans ka (fun _ h => h.elim), ho.2⟩
  have PR := Lib.hid (hp.kept ka)
  have KA := Lib.hid ka
  have HR := Lib.hid hr
  have HK := Lib.hid hk
  have HB := Lib.hid hb
  have HN := Lib.hid hn
  have HM := Lib.hid hm
  have HI := Lib.hid hi
  clear h ho hp hr hk hb hn hm hi ka hb0 hb1 nq e1
  obtain ⟨⟨t1, s1⟩, h1⟩ : ∃ r, put s empty = r := ⟨_, rfl⟩
  obtain ⟨⟨t2, s2⟩, h2⟩ : ∃ r, pathP s keys boxes has = r := ⟨_, rfl⟩
  obtain ⟨⟨t3, s3⟩, h3⟩ : ∃ r, listedT remT s2 rem = r := ⟨_, rfl⟩
  obtain ⟨⟨t4, s4⟩, h4⟩ : ∃ r, listT s3 refs = r := ⟨_, rfl⟩
  have RT : Hid (commitT s ⟨rem, refs, keys, boxes, has⟩ = listT s4 [(t3 : Int), (t4 : Int), (t2 : Int)]) := Lib.hid (by unfold commitT; simp only; rw [h2]; simp only; rw [h3]; simp only; rw [h4])
  have H1 := Lib.hid h1
  have H2 := Lib.hid h2
  have H3 := Lib.hid h3
  have H4 := Lib.hid h4
  clear h1 h2 h3 h4
  unfold pathV
  have cq := CI.out.2
  go_enter Tryd.func27, Tryd.ntmps27
  go_wp2_with (fail)
  refine (text_any w0 wa p F s ⟨#[]⟩ S0.out (by decide)).mono ?_
  rw [show put s (textN ⟨#[]⟩) = put s empty from rfl, H1.out]
  rintro e w1 ⟨rfl, F1, s1', b1, k1⟩
  have S1 := Lib.hid s1'
  have HO := Lib.hid (HO.out.next b1 k1)
  have PC := Lib.hid (PC.out.next OP.out k1)
  have OP := Lib.hid (OP.out.next b1 k1)
  have CI := Lib.hid (CI.out.next b1 k1)
  have PR := Lib.hid (PR.out.next b1 k1)
  have B1 := Lib.hid b1
  have K1 := Lib.hid k1
  clear s1' b1 k1 cq hwa hq
  have cq := CI.out.2
  obtain ⟨c0, c1, c2, c3⟩ := PC.out
  cases has with
  | false =>
    have e2 : (t2, s2) = (t1, s1) := by have h1 := H1.out; have h2 := H2.out; unfold pathP at h2; rw [if_neg (by simp), h1] at h2; exact h2.symm
    simp only [Prod.mk.injEq] at e2
    obtain ⟨e3, e4⟩ := e2
    subst e3 e4
    obtain ⟨w2, hw2⟩ : ∃ w2, w1 = w2 := ⟨_, rfl⟩
    obtain ⟨F2, hF2⟩ : ∃ F2, F1 = F2 := ⟨_, rfl⟩
    rw [hw2] at S1 HO CI PR K1 PC cq ⊢
    rw [hF2] at S1 HO CI PR B1
    have S2 := S1
    have B2 := B1
    have K2 := K1
    clear hw2 hF2 c0 c1 c2 c3 cq
    go_wp2
    refine wp_region_lex (fun w' => w'.cell? ⟨q, 0, none⟩ = some (.pointer (some ⟨p, 0, none⟩))) [3, 1, 0, 0, 2, 3, 0, 2, 0, 2, 4, 0] (by kernel_rfl) (by kernel_rfl) (by kernel_rfl) (CI.out.2) (fun Q' hQ' => ?_)
    simp only [List.zip_cons_cons, List.zip_nil_right]
    have cq := CI.out.2
    repeat (first
      | (refine wpX_silent ?_ (fun K hK => ?_)
         · rfl
         apply Exists.intro
         refine ⟨fun w' => ?_, ?_⟩
         · go_simp
           exact ⟨rfl, rfl⟩
         go_simp
         refine hK _ _ ?_
         clear hK K)
      | (refine wpX_read ?_ (fun K hK => ?_)
         · rfl
         apply Exists.intro
         refine ⟨?_, ?_⟩
         · go_simp
           exact ⟨rfl, rfl⟩
         go_simp
         refine hK _ _ ?_
         clear hK K)
      | (refine wpX_float ?_ (fun K hK => ?_)
         · rfl
         apply Exists.intro
         refine ⟨fun w' hw' => ?_, ?_⟩
         · try dsimp only at hw'
           go_simp
           exact ⟨rfl, rfl⟩
         go_simp
         refine hK _ _ ?_
         clear hK K)
      | (refine wpX_not ?_ (fun K hK => ?_)
         · rfl
         go_simp
         refine hK _ _ ?_
         clear hK K))
    refine wpX_keeps ?_ (fun K hK => ?_)
    · rfl
    go_wp2_with (fail)
    refine (listedP_any w0 _ p q F2 s2 rem A ca (S2.out.kept (Kept.refl _ _).drew) (PR.out.kept (Kept.refl _ _).drew) (CI.out.kept (Kept.refl _ _).drew) HM.out HI.out).mono ?_
    rw [H3.out]
    rintro e w3 ⟨rfl, F3, s3', b3, k3⟩
    have k3' : Kept w2 w3 F2 := ((Kept.refl w2 F2).drew).trans k3 (fun _ h => .inl h)
    have b3' : ∀ k, F3 k → F2 k ∨ w2.heap.size ≤ k := b3
    have S3 := Lib.hid s3'
    have HO := Lib.hid (HO.out.next b3' k3')
    have CI := Lib.hid (CI.out.next b3' k3')
    have B3 := Lib.hid (chain B2.out K2.out b3' k3').1
    have K3 := Lib.hid (chain B2.out K2.out b3' k3').2
    clear s3' b3 k3 b3' k3' cq
    have cq := CI.out.2
    go_simp
    refine hK _ _ ⟨rfl, cq, ?_⟩
    clear hK K
    repeat (first
      | (refine wpX_silent ?_ (fun K hK => ?_)
         · rfl
         apply Exists.intro
         refine ⟨fun w' => ?_, ?_⟩
         · go_simp
           exact ⟨rfl, rfl⟩
         go_simp
         refine hK _ _ ?_
         clear hK K)
      | (refine wpX_read ?_ (fun K hK => ?_)
         · rfl
         apply Exists.intro
         refine ⟨?_, ?_⟩
         · go_simp
           exact ⟨rfl, rfl⟩
         go_simp
         refine hK _ _ ?_
         clear hK K)
      | (refine wpX_float ?_ (fun K hK => ?_)
         · rfl
         apply Exists.intro
         refine ⟨fun w' hw' => ?_, ?_⟩
         · try dsimp only at hw'
           go_simp
           exact ⟨rfl, rfl⟩
         go_simp
         refine hK _ _ ?_
         clear hK K)
      | (refine wpX_not ?_ (fun K hK => ?_)
         · rfl
         go_simp
         refine hK _ _ ?_
         clear hK K))
    refine wpX_keeps ?_ (fun K hK => ?_)
    · rfl
    go_wp2_with (fail)
    refine (list_old wz w0 w3 p F3 s3 refs B cb S3.out HO.out HR.out).mono ?_
    rw [H4.out]
    rintro e w4 ⟨rfl, F4, s4', b4, k4⟩
    have S4 := Lib.hid s4'
    have CI := Lib.hid (CI.out.next b4 k4)
    have B4 := Lib.hid (chain B3.out K3.out b4 k4).1
    have K4 := Lib.hid (chain B3.out K3.out b4 k4).2
    clear s4' b4 k4 cq
    have cq := CI.out.2
    go_simp
    refine hK _ _ ⟨rfl, cq, ?_⟩
    clear hK K
    repeat (first
      | (refine wpX_silent ?_ (fun K hK => ?_)
         · rfl
         apply Exists.intro
         refine ⟨fun w' => ?_, ?_⟩
         · go_simp
           exact ⟨rfl, rfl⟩
         go_simp
         refine hK _ _ ?_
         clear hK K)
      | (refine wpX_read ?_ (fun K hK => ?_)
         · rfl
         apply Exists.intro
         refine ⟨?_, ?_⟩
         · go_simp
           exact ⟨rfl, rfl⟩
         go_simp
         refine hK _ _ ?_
         clear hK K)
      | (refine wpX_float ?_ (fun K hK => ?_)
         · rfl
         apply Exists.intro
         refine ⟨fun w' hw' => ?_, ?_⟩
         · try dsimp only at hw'
           go_simp
           exact ⟨rfl, rfl⟩
         go_simp
         refine hK _ _ ?_
         clear hK K)
      | (refine wpX_not ?_ (fun K hK => ?_)
         · rfl
         go_simp
         refine hK _ _ ?_
         clear hK K))
    refine wpX_keeps ?_ (fun K hK => ?_)
    · rfl
    have cq2 := cellK ((Kept.refl w4 (fun _ => False)).alloc (.cells #[.int .i64 t3, .int .i64 t4, .int .i64 t2] 3)) cq
    go_wp2
    repeat (first
      | (refine wpX_silent ?_ (fun K hK => ?_)
         · rfl
         apply Exists.intro
         refine ⟨fun w' => ?_, ?_⟩
         · go_simp
           exact ⟨rfl, rfl⟩
         go_simp
         refine hK _ _ ?_
         clear hK K)
      | (refine wpX_read ?_ (fun K hK => ?_)
         · rfl
         apply Exists.intro
         refine ⟨?_, ?_⟩
         · go_simp
           exact ⟨rfl, rfl⟩
         go_simp
         refine hK _ _ ?_
         clear hK K)
      | (refine wpX_float ?_ (fun K hK => ?_)
         · rfl
         apply Exists.intro
         refine ⟨fun w' hw' => ?_, ?_⟩
         · try dsimp only at hw'
           go_simp
           exact ⟨rfl, rfl⟩
         go_simp
         refine hK _ _ ?_
         clear hK K)
      | (refine wpX_not ?_ (fun K hK => ?_)
         · rfl
         go_simp
         refine hK _ _ ?_
         clear hK K))
    refine wpX_heavy ?_ (fun K hK => ?_)
    · rfl
    go_wp2_with (fail)
    refine (list_new w0 w4 p F4 s4 [(t3 : Int), (t4 : Int), (t2 : Int)] S4.out (by simp only [List.length_cons, List.length_nil]; decide)).mono ?_
    rw [← RT.out]
    rintro e w5 ⟨rfl, F5, s5, b5, k5⟩
    have E5 := Lib.hid (chain B4.out K4.out b5 k5)
    have S5 := Lib.hid s5
    clear s5 b5 k5 cq cq2
    go_simp
    refine hK _ _ ⟨rfl, ?_⟩
    clear hK K
    repeat (first
      | (refine wpX_silent ?_ (fun K hK => ?_)
         · rfl
         apply Exists.intro
         refine ⟨fun w' => ?_, ?_⟩
         · go_simp
           exact ⟨rfl, rfl⟩
         go_simp
         refine hK _ _ ?_
         clear hK K)
      | (refine wpX_read ?_ (fun K hK => ?_)
         · rfl
         apply Exists.intro
         refine ⟨?_, ?_⟩
         · go_simp
           exact ⟨rfl, rfl⟩
         go_simp
         refine hK _ _ ?_
         clear hK K)
      | (refine wpX_float ?_ (fun K hK => ?_)
         · rfl
         apply Exists.intro
         refine ⟨fun w' hw' => ?_, ?_⟩
         · try dsimp only at hw'
           go_simp
           exact ⟨rfl, rfl⟩
         go_simp
         refine hK _ _ ?_
         clear hK K)
      | (refine wpX_not ?_ (fun K hK => ?_)
         · rfl
         go_simp
         refine hK _ _ ?_
         clear hK K))
    refine wpX_nil (hQ' _ _ ?_)
    go_wp2
    go_ret
    exact ⟨rfl, TNext.after KA.out ⟨F5, S5.out, E5.out⟩⟩
  | true =>
    have hP : pathP s keys boxes true = pathT s1 keys boxes := by unfold pathP; rw [if_pos rfl, H1.out]
    have H2' : Hid (pathT s1 keys boxes = (t2, s2)) := Lib.hid (by rw [← hP]; exact H2.out)
    clear hP
    go_wp2_with (fail)
    refine (path_any wz w0 w1 p F1 s1 keys boxes C D cc cd S1.out HO.out HK.out HB.out HN.out).mono ?_
    rw [H2'.out]
    rintro e w2 ⟨rfl, F2, s2', b2, k2⟩
    have S2 := Lib.hid s2'
    have HO := Lib.hid (HO.out.next b2 k2)
    have CI := Lib.hid (CI.out.next b2 k2)
    have PR := Lib.hid (PR.out.next b2 k2)
    have B2 := Lib.hid (chain B1.out K1.out b2 k2).1
    have K2 := Lib.hid (chain B1.out K1.out b2 k2).2
    clear s2' b2 k2 cq c0 c1 c2 c3
    go_wp2
    refine wp_region_lex (fun w' => w'.cell? ⟨q, 0, none⟩ = some (.pointer (some ⟨p, 0, none⟩))) [3, 1, 0, 0, 2, 3, 0, 2, 0, 2, 4, 0] (by kernel_rfl) (by kernel_rfl) (by kernel_rfl) (CI.out.2) (fun Q' hQ' => ?_)
    simp only [List.zip_cons_cons, List.zip_nil_right]
    have cq := CI.out.2
    repeat (first
      | (refine wpX_silent ?_ (fun K hK => ?_)
         · rfl
         apply Exists.intro
         refine ⟨fun w' => ?_, ?_⟩
         · go_simp
           exact ⟨rfl, rfl⟩
         go_simp
         refine hK _ _ ?_
         clear hK K)
      | (refine wpX_read ?_ (fun K hK => ?_)
         · rfl
         apply Exists.intro
         refine ⟨?_, ?_⟩
         · go_simp
           exact ⟨rfl, rfl⟩
         go_simp
         refine hK _ _ ?_
         clear hK K)
      | (refine wpX_float ?_ (fun K hK => ?_)
         · rfl
         apply Exists.intro
         refine ⟨fun w' hw' => ?_, ?_⟩
         · try dsimp only at hw'
           go_simp
           exact ⟨rfl, rfl⟩
         go_simp
         refine hK _ _ ?_
         clear hK K)
      | (refine wpX_not ?_ (fun K hK => ?_)
         · rfl
         go_simp
         refine hK _ _ ?_
         clear hK K))
    refine wpX_keeps ?_ (fun K hK => ?_)
    · rfl
    go_wp2_with (fail)
    refine (listedP_any w0 _ p q F2 s2 rem A ca (S2.out.kept (Kept.refl _ _).drew) (PR.out.kept (Kept.refl _ _).drew) (CI.out.kept (Kept.refl _ _).drew) HM.out HI.out).mono ?_
    rw [H3.out]
    rintro e w3 ⟨rfl, F3, s3', b3, k3⟩
    have k3' : Kept w2 w3 F2 := ((Kept.refl w2 F2).drew).trans k3 (fun _ h => .inl h)
    have b3' : ∀ k, F3 k → F2 k ∨ w2.heap.size ≤ k := b3
    have S3 := Lib.hid s3'
    have HO := Lib.hid (HO.out.next b3' k3')
    have CI := Lib.hid (CI.out.next b3' k3')
    have B3 := Lib.hid (chain B2.out K2.out b3' k3').1
    have K3 := Lib.hid (chain B2.out K2.out b3' k3').2
    clear s3' b3 k3 b3' k3' cq
    have cq := CI.out.2
    go_simp
    refine hK _ _ ⟨rfl, cq, ?_⟩
    clear hK K
    repeat (first
      | (refine wpX_silent ?_ (fun K hK => ?_)
         · rfl
         apply Exists.intro
         refine ⟨fun w' => ?_, ?_⟩
         · go_simp
           exact ⟨rfl, rfl⟩
         go_simp
         refine hK _ _ ?_
         clear hK K)
      | (refine wpX_read ?_ (fun K hK => ?_)
         · rfl
         apply Exists.intro
         refine ⟨?_, ?_⟩
         · go_simp
           exact ⟨rfl, rfl⟩
         go_simp
         refine hK _ _ ?_
         clear hK K)
      | (refine wpX_float ?_ (fun K hK => ?_)
         · rfl
         apply Exists.intro
         refine ⟨fun w' hw' => ?_, ?_⟩
         · try dsimp only at hw'
           go_simp
           exact ⟨rfl, rfl⟩
         go_simp
         refine hK _ _ ?_
         clear hK K)
      | (refine wpX_not ?_ (fun K hK => ?_)
         · rfl
         go_simp
         refine hK _ _ ?_
         clear hK K))
    refine wpX_keeps ?_ (fun K hK => ?_)
    · rfl
    go_wp2_with (fail)
    refine (list_old wz w0 w3 p F3 s3 refs B cb S3.out HO.out HR.out).mono ?_
    rw [H4.out]
    rintro e w4 ⟨rfl, F4, s4', b4, k4⟩
    have S4 := Lib.hid s4'
    have CI := Lib.hid (CI.out.next b4 k4)
    have B4 := Lib.hid (chain B3.out K3.out b4 k4).1
    have K4 := Lib.hid (chain B3.out K3.out b4 k4).2
    clear s4' b4 k4 cq
    have cq := CI.out.2
    go_simp
    refine hK _ _ ⟨rfl, cq, ?_⟩
    clear hK K
    repeat (first
      | (refine wpX_silent ?_ (fun K hK => ?_)
         · rfl
         apply Exists.intro
         refine ⟨fun w' => ?_, ?_⟩
         · go_simp
           exact ⟨rfl, rfl⟩
         go_simp
         refine hK _ _ ?_
         clear hK K)
      | (refine wpX_read ?_ (fun K hK => ?_)
         · rfl
         apply Exists.intro
         refine ⟨?_, ?_⟩
         · go_simp
           exact ⟨rfl, rfl⟩
         go_simp
         refine hK _ _ ?_
         clear hK K)
      | (refine wpX_float ?_ (fun K hK => ?_)
         · rfl
         apply Exists.intro
         refine ⟨fun w' hw' => ?_, ?_⟩
         · try dsimp only at hw'
           go_simp
           exact ⟨rfl, rfl⟩
         go_simp
         refine hK _ _ ?_
         clear hK K)
      | (refine wpX_not ?_ (fun K hK => ?_)
         · rfl
         go_simp
         refine hK _ _ ?_
         clear hK K))
    refine wpX_keeps ?_ (fun K hK => ?_)
    · rfl
    have cq2 := cellK ((Kept.refl w4 (fun _ => False)).alloc (.cells #[.int .i64 t3, .int .i64 t4, .int .i64 t2] 3)) cq
    go_wp2
    repeat (first
      | (refine wpX_silent ?_ (fun K hK => ?_)
         · rfl
         apply Exists.intro
         refine ⟨fun w' => ?_, ?_⟩
         · go_simp
           exact ⟨rfl, rfl⟩
         go_simp
         refine hK _ _ ?_
         clear hK K)
      | (refine wpX_read ?_ (fun K hK => ?_)
         · rfl
         apply Exists.intro
         refine ⟨?_, ?_⟩
         · go_simp
           exact ⟨rfl, rfl⟩
         go_simp
         refine hK _ _ ?_
         clear hK K)
      | (refine wpX_float ?_ (fun K hK => ?_)
         · rfl
         apply Exists.intro
         refine ⟨fun w' hw' => ?_, ?_⟩
         · try dsimp only at hw'
           go_simp
           exact ⟨rfl, rfl⟩
         go_simp
         refine hK _ _ ?_
         clear hK K)
      | (refine wpX_not ?_ (fun K hK => ?_)
         · rfl
         go_simp
         refine hK _ _ ?_
         clear hK K))
    refine wpX_heavy ?_ (fun K hK => ?_)
    · rfl
    go_wp2_with (fail)
    refine (list_new w0 w4 p F4 s4 [(t3 : Int), (t4 : Int), (t2 : Int)] S4.out (by simp only [List.length_cons, List.length_nil]; decide)).mono ?_
    rw [← RT.out]
    rintro e w5 ⟨rfl, F5, s5, b5, k5⟩
    have E5 := Lib.hid (chain B4.out K4.out b5 k5)
    have S5 := Lib.hid s5
    clear s5 b5 k5 cq cq2
    go_simp
    refine hK _ _ ⟨rfl, ?_⟩
    clear hK K
    repeat (first
      | (refine wpX_silent ?_ (fun K hK => ?_)
         · rfl
         apply Exists.intro
         refine ⟨fun w' => ?_, ?_⟩
         · go_simp
           exact ⟨rfl, rfl⟩
         go_simp
         refine hK _ _ ?_
         clear hK K)
      | (refine wpX_read ?_ (fun K hK => ?_)
         · rfl
         apply Exists.intro
         refine ⟨?_, ?_⟩
         · go_simp
           exact ⟨rfl, rfl⟩
         go_simp
         refine hK _ _ ?_
         clear hK K)
      | (refine wpX_float ?_ (fun K hK => ?_)
         · rfl
         apply Exists.intro
         refine ⟨fun w' hw' => ?_, ?_⟩
         · try dsimp only at hw'
           go_simp
           exact ⟨rfl, rfl⟩
         go_simp
         refine hK _ _ ?_
         clear hK K)
      | (refine wpX_not ?_ (fun K hK => ?_)
         · rfl
         go_simp
         refine hK _ _ ?_
         clear hK K))
    refine wpX_nil (hQ' _ _ ?_)
    go_wp2
    go_ret
    exact ⟨rfl, TNext.after KA.out ⟨F5, S5.out, E5.out⟩⟩
end Go.Proofs.YtaifjojfmkcmjaaDoor.Term
