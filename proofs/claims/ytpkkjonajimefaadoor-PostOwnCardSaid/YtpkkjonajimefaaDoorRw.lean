/- The reference's post: a message that comes twice. -/
import Derived.Test.YtpkkjonajimefaaDoorRs
set_option linter.unusedVariables false
set_option linter.unusedSimpArgs false
namespace Go.Proofs.YtpkkjonajimefaaDoor
open Go.RowKit

set_option maxHeartbeats 8000000 in
set_option maxRecDepth 100000 in
theorem refCopy_any (B : Nat) (w : World) (x : Value) (ms : List MsgM) (h : RefAt B w x ms) (hB : B ≤ w.heap.size) (hms : ms.length ≤ 1000) (i : Int) : Calls Tryd.prog 21 #[x, .int .i64 i] w fun e w' =>
    e = .returned (.bool (decide ((0 ≤ i ∧ i < ms.length) ∧ ms.length < 200))) ∧ RefAt B w' x (copiedM ms i) ∧ Below B w w' ∧ Still RefOut w w' := by
  have HREF := Lib.hid h
  obtain ⟨mj, hmj⟩ : ∃ mj, mj = atM ms i := ⟨_, rfl⟩
  have HMJ := Lib.hid hmj
  clear h
  by_cases hr : 0 ≤ i ∧ i < (ms.length : Int)
  · have HD : Hid (decide (0 ≤ i ∧ i < (ms.length : Int)) = true) := decide_eq_true hr
    have HFEW : Hid mj.few := by
      rw [HMJ.out, atM, if_pos hr]
      obtain ⟨_, _, _, _, _, cc, _, h3⟩ := HREF.out
      exact (h3 i.toNat (by omega)).2.2
    have HRI := Lib.hid hr
    have hpos : 0 < ms.length := by omega
    clear hr hmj
    by_cases h200 : ms.length < 200
    · have h200' : (ms.length : Int) < 200 := by omega
      have h200'' : ¬ (200 : Int) ≤ ms.length := by omega
      have HC : Hid (copiedM ms i = ms ++ [mj]) := Lib.hid (by rw [copiedM, if_pos ⟨HRI.out, h200⟩, HMJ.out, atM, if_pos HRI.out])
      rw [decide_eq_true ⟨HRI.out, h200⟩]
      go_enter Tryd.func21, Tryd.ntmps21
      go_wp2_with fail
      refine (refAt_any B w x ms HREF.out i).mono ?_
      rw [HD.out, ← HMJ.out]
      rintro e w3 ⟨v', rfl, hv', hb3⟩
      have HV := Lib.hid hv'
      obtain ⟨a1, c1, a2, c2, rfl⟩ := msg_agg hv'
      have HB3 := Lib.hid hb3
      have hsz3 := Lib.hid hb3.size
      obtain ⟨b, sl, rfl, hbB, hblk, cc, hown, hcc⟩ := HREF.out.below hb3
      obtain ⟨sa, sc, rfl⟩ := own_slicen hown
      have c0 : ∀ o, (w3.alloc o).cell? ⟨b, 0, none⟩ = some (.slice sa ms.length sc) := fun o => cell_of_block (block_below hblk (below_alloc' (Below.refl _ _) _)) 0 _ rfl
      have HBLK := Lib.hid hblk
      have HOWN := Lib.hid hown
      have HCC := Lib.hid hcc
      clear hv' hb3 hblk hown hcc
      go_upto_region 4 with fail
      generalize hw4 : World.alloc w3 _ = w4
      have hb4 : Below w3.heap.size w3 w4 := by rw [← hw4]; exact below_alloc' (Below.refl _ _) _
      have z4 : w4.heap[w3.heap.size]? = some (.cells #[.int .i64 mj.kind, .int .i64 mj.src, .int .i64 mj.dst, .int .i64 mj.gang, .slice a1 mj.pods.length c1, .slice a2 mj.peers.length c2, .bool mj.yes] 26 (0, 0)) := by rw [← hw4]; exact alloc_at _ _
      clear hw4 c0
      have hown4 : w4.ownsRow B 26 7 (.slice sa ms.length sc) ms.length (flat ms.length cc) := own_below HOWN.out hb4
      have hrlt : ∀ g', Value.ownBlock (.slice sa ms.length sc) = some g' → g' < w3.heap.size := fun g' hg' => (HOWN.out.lt g' hg').2
      have hbk4 := block_below HBLK.out hb4
      have hfacts : ∀ w6, GrewM (Value.ownBlock (.slice sa ms.length sc)) w4.drew w6 → w6.cell? ⟨b, 0, none⟩ = some (.slice sa ms.length sc) ∧ w6.heap[w3.heap.size]? = some (.cells #[.int .i64 mj.kind, .int .i64 mj.src, .int .i64 mj.dst, .int .i64 mj.gang, .slice a1 mj.pods.length c1, .slice a2 mj.peers.length c2, .bool mj.yes] 26 (0, 0)) := fun w6 h =>
        ⟨cell_of_block (h.2 _ _ _ (by decide) hbk4) 0 _ rfl, (h.1.block _ (Array.getElem?_eq_some_iff.1 z4).1 (fun e => by have := hrlt _ e.symm; omega)).trans z4⟩
      have HFA := Lib.hid hfacts
      have HRLT := Lib.hid hrlt
      have HOWN4 := Lib.hid hown4
      have HBLK4 := Lib.hid (block_below HBLK.out hb4)
      have HB4 := Lib.hid (below_call HB3.out hb4)
      have HB4' := Lib.hid hb4
      have hs34 := hb4.size
      clear hfacts hrlt hown4 z4 hb4 hbk4
      refine' Pas.wp_region_pass (fun w w' => Below w.heap.size w w') (GrewM (Value.ownBlock (.slice sa ms.length sc))) 10 (by kernel_rfl) (by kernel_rfl) (by kernel_rfl) (by kernel_rfl) (by kernel_rfl) (by kernel_rfl)
        (fun w => GrewM.refl _ _) (fun h k => GrewM.trans h k) [(fun w3 => w3.ownsRow B 26 7 (.slice sa ms.length sc) ms.length (flat ms.length cc), 7)] ?_ ?_ (fun vals => ?_)
      case refine'_2 =>
        simp only [List.forall_mem_cons]
        exact ⟨own_drew HOWN4.out, by simp⟩
      case refine'_3 =>
        simp only [List.forall_mem_cons]
        exact ⟨fun w1 w2 k h => own_below h k, by simp⟩
      rotate_left
      simp only [List.take_succ_cons, List.take_zero, List.drop_succ_cons, List.drop_zero]
      (apply Pas.pas_x (fun _ _ h => GrewM.of_below h) rfl; (focus (intro w6 hR hD hP K hK; replace hK := Lib.hid hK; skip; clear hR hD hP; go_simp; exact hK.out _ (Below.refl _ _))); simp only [Act.put, List.setIfInBounds_toArray, List.set_cons_zero, List.set_cons_succ, Nat.reduceAdd, List.cons_append, List.nil_append])
      (apply Pas.pas_x (fun _ _ h => GrewM.of_below h) rfl; (focus (intro w6 hR hD hP K hK; replace hK := Lib.hid hK; skip; clear hR hD hP; go_simp; exact hK.out _ (Below.refl _ _))); simp only [Act.put, List.setIfInBounds_toArray, List.set_cons_zero, List.set_cons_succ, Nat.reduceAdd, List.cons_append, List.nil_append])
      (apply Pas.pas_x (fun _ _ h => GrewM.of_below h) rfl; (focus (intro w6 hR hD hP K hK; replace hK := Lib.hid hK; skip; clear hR hD hP; go_simp; exact hK.out _ (Below.refl _ _))); simp only [Act.put, List.setIfInBounds_toArray, List.set_cons_zero, List.set_cons_succ, Nat.reduceAdd, List.cons_append, List.nil_append])
      (apply Pas.pas_x (fun _ _ h => GrewM.of_below h) rfl; (focus (intro w6 hR hD hP K hK; replace hK := Lib.hid hK; skip; clear hR hD hP; go_simp; exact hK.out _ (Below.refl _ _))); simp only [Act.put, List.setIfInBounds_toArray, List.set_cons_zero, List.set_cons_succ, Nat.reduceAdd, List.cons_append, List.nil_append])
      (apply Pas.pas_x (fun _ _ h => GrewM.of_below h) rfl; (focus (intro w6 hR hD hP K hK; replace hK := Lib.hid hK; have c0 := (HFA.out w6 hR).1; clear hR hD hP; go_simp; exact hK.out _ (Below.refl _ _))); simp only [Act.put, List.setIfInBounds_toArray, List.set_cons_zero, List.set_cons_succ, Nat.reduceAdd, List.cons_append, List.nil_append])
      (apply Pas.pas_x (fun _ _ h => GrewM.of_below h) rfl; (focus (intro w6 hR hD hP K hK; replace hK := Lib.hid hK; have z := (HFA.out w6 hR).2; have e0 := cell_of_block z 0 _ rfl; have e1 := cell_of_block z 1 _ rfl; have e2 := cell_of_block z 2 _ rfl; have e3 := cell_of_block z 3 _ rfl; have e4 := cell_of_block z 4 _ rfl; have e5 := cell_of_block z 5 _ rfl; have e6 := cell_of_block z 6 _ rfl; clear z; clear hR hD hP; go_simp; exact hK.out _ (Below.refl _ _))); simp only [Act.put, List.setIfInBounds_toArray, List.set_cons_zero, List.set_cons_succ, Nat.reduceAdd, List.cons_append, List.nil_append])
      (apply Pas.pas_r (fun v w' => ∃ g1, v = .slice (some ⟨g1, 0, none⟩) 1 1 ∧ Value.ownBlock (.slice sa ms.length sc) ≠ some g1 ∧ w'.heap[g1]? = some (.cells #[.int .i64 mj.kind, .int .i64 mj.src, .int .i64 mj.dst, .int .i64 mj.gang, .slice a1 mj.pods.length c1, .slice a2 mj.peers.length c2, .bool mj.yes] 26 (0, 0))) (fun _ _ h => GrewM.of_below h) rfl (fun v w1 w2 h k => by obtain ⟨g1, h1, h2, h3⟩ := h; exact ⟨g1, h1, h2, block_below h3 k⟩); (focus (intro w6 hR hD hP K hK; replace hK := Lib.hid hK; have hne : Value.ownBlock (.slice sa ms.length sc) ≠ some w6.heap.size := (fun e => absurd (HRLT.out _ e) (by have := hR.1.size; have h2 : w4.drew.heap.size = w4.heap.size := rfl; omega)); have HNE := Lib.hid hne; clear hR hD hP hne; go_simp; exact hK.out _ _ (below_alloc' (Below.refl _ _) _) ⟨_, rfl, HNE.out, alloc_at _ _⟩)); simp only [Act.put, List.setIfInBounds_toArray, List.set_cons_zero, List.set_cons_succ, Nat.reduceAdd, List.cons_append, List.nil_append])
      (apply Pas.pas_s (GrewM (Value.ownBlock (.slice sa ms.length sc))) (fun v w' => w'.ownsRow B 26 7 v (ms.length + 1) (flat ms.length cc ++ [Value.int .i64 mj.kind, .int .i64 mj.src, .int .i64 mj.dst, .int .i64 mj.gang, .slice a1 mj.pods.length c1, .slice a2 mj.peers.length c2, .bool mj.yes])) (fun _ _ h => h) rfl (fun _ w1 w2 h k => own_below h k); (focus (intro w6 hR hD hP K hK; replace hK := Lib.hid hK; obtain ⟨g1, eg, _, hg⟩ : ∃ g1, vals 6 = .slice (some ⟨g1, 0, none⟩) 1 1 ∧ Value.ownBlock (.slice sa ms.length sc) ≠ some g1 ∧ w6.heap[g1]? = some (.cells #[.int .i64 mj.kind, .int .i64 mj.src, .int .i64 mj.dst, .int .i64 mj.gang, .slice a1 mj.pods.length c1, .slice a2 mj.peers.length c2, .bool mj.yes] 26 (0, 0)) := hD 6 (by kernel_rfl); simp only [eg] at hK ⊢; have hown := hP _ (List.mem_cons_self ..) (.inl rfl); have hBs : B ≤ w6.heap.size := Nat.le_trans (Nat.le_trans hB HB4.out.size) hR.1.size; exact wp_app_full elt_msgs (.tmp 27) (.tmp 29) rfl (ad := ⟨g1, 0, none⟩) (c := 1) (m := 1) (news := [Value.int .i64 mj.kind, .int .i64 mj.src, .int .i64 mj.dst, .int .i64 mj.gang, .slice a1 mj.pods.length c1, .slice a2 mj.peers.length c2, .bool mj.yes]) rfl rfl hown rfl (by have := news_row hg; simpa using this) (by simp [Value.oneCell']) (by omega) hBs fun v' w7 h1 h2 h3 h4 => hK.out _ _ ⟨h3, h2.still⟩ h1)); simp only [Act.put, List.setIfInBounds_toArray, List.set_cons_zero, List.set_cons_succ, Nat.reduceAdd, List.cons_append, List.nil_append])
      (apply Pas.pas_x (fun _ _ h => GrewM.of_below h) rfl; (focus (intro w6 hR hD hP K hK; replace hK := Lib.hid hK; skip; clear hR hD hP; go_simp; exact hK.out _ (Below.refl _ _))); simp only [Act.put, List.setIfInBounds_toArray, List.set_cons_zero, List.set_cons_succ, Nat.reduceAdd, List.cons_append, List.nil_append])
      (apply Pas.pas_x (fun _ _ h => GrewM.of_below h) rfl; (focus (intro w6 hR hD hP K hK; replace hK := Lib.hid hK; skip; clear hR hD hP; go_simp; exact hK.out _ (Below.refl _ _))); simp only [Act.put, List.setIfInBounds_toArray, List.set_cons_zero, List.set_cons_succ, Nat.reduceAdd, List.cons_append, List.nil_append])
      refine Pas.pas_ends ?_ ?_ fun w6 hR hp => ?_
      · simp only [Pas.AllK, List.append_assoc, List.nil_append, List.cons_append, true_and, and_true, true_or, or_true, Nat.reduceAdd]
        refine .inr fun v w1 w2 h k q => ?_
        obtain ⟨g1, q1, q2, q3⟩ := q
        exact ⟨g1, q1, q2, (k.1.block g1 (Array.getElem?_eq_some_iff.1 q3).1 (fun e => q2 e.symm)).trans q3⟩
      · simp [Pas.AllK]
      have ho7 : w6.ownsRow B 26 7 (vals 7) (ms.length + 1) (flat ms.length cc ++ [Value.int .i64 mj.kind, .int .i64 mj.src, .int .i64 mj.dst, .int .i64 mj.gang, .slice a1 mj.pods.length c1, .slice a2 mj.peers.length c2, .bool mj.yes]) := hp 7 (by simp)
      clear hp
      obtain ⟨ta, tc, ev⟩ := own_slicen ho7
      rw [ev] at ho7
      simp only [ev]
      have hbl6 := hR.2 _ _ _ (by decide) HBLK4.out
      have cb := cell_of_block hbl6 0 _ rfl
      have frb := free_of_block hbl6 0
      have HR := Lib.hid hR
      have HO7 := Lib.hid ho7
      have HBL6 := Lib.hid hbl6
      clear ev ho7 hR hbl6
      go_wp2
      have hbut := But.set w6 b 0 (.slice ta (ms.length + 1) tc)
      have hst := hbut.still HBL6.out (T := fun e => e ≠ 38) (by simp)
      have b7 : (w6.setCell ⟨b, 0, none⟩ (.slice ta (ms.length + 1) tc)).heap[b]? = some (.cells #[.slice ta (ms.length + 1) tc] 38 (0, 0)) := heap_setCell_same _ _ _ _ _ _ HBL6.out
      generalize World.setCell _ _ _ = w7 at hbut hst b7 ⊢
      go_ret
      refine ⟨rfl, ?_, ?_, ?_⟩
      · rw [HC.out]
        have hp46 : Still Parts w3 w6 := (Still.of_below HB4'.out).trans HR.out.parts
        refine ⟨b, _, rfl, hbB, b7, ?_⟩
        exact (MsgRow.snoc (w := w6) (fun i hi => ⟨(HCC.out i hi).1, (HCC.out i hi).2.1.still hp46, (HCC.out i hi).2.2⟩) rfl ((HV.out.base (Nat.zero_le _)).still hp46) HFEW.out HO7.out (fun _ _ _ _ h => h)).still (still_sub hst fun e he => by rcases he with rfl | rfl | rfl | rfl <;> decide)
      · refine Below.but ?_ hbut hbB ?_
        · exact ((HB4.out.mono hB).drew.grown HR.out.1 (Nat.le_trans hB HB4.out.size) (fun g' hg' => (HOWN4.out.lt g' hg').1))
        · exact Nat.le_trans (Nat.le_trans hB HB4.out.size) HR.out.1.size
      · exact (Still.of_below HB4.out).trans ((still_sub HR.out.2 fun e he => he.2).trans (still_sub hst fun e he => he.1))
    · have h200' : ¬ (ms.length : Int) < 200 := by omega
      have h200'' : (200 : Int) ≤ ms.length := by omega
      have HC : Hid (copiedM ms i = ms) := Lib.hid (by rw [copiedM, if_neg (fun k => h200 k.2)])
      rw [decide_eq_false (fun k => h200 k.2)]
      go_enter Tryd.func21, Tryd.ntmps21
      go_wp2_with fail
      refine (refAt_any B w x ms HREF.out i).mono ?_
      rw [HD.out, ← HMJ.out]
      rintro e w3 ⟨v', rfl, hv', hb3⟩
      obtain ⟨a1, c1, a2, c2, rfl⟩ := msg_agg hv'
      have HB3 := Lib.hid hb3
      obtain ⟨b, sl, rfl, hbB, hblk, cc, hown, hcc⟩ := HREF.out.below hb3
      obtain ⟨sa, sc, rfl⟩ := own_slicen hown
      have c0 : ∀ o, (w3.alloc o).cell? ⟨b, 0, none⟩ = some (.slice sa ms.length sc) := fun o => cell_of_block (block_below hblk (below_alloc' (Below.refl _ _) _)) 0 _ rfl
      clear hv' hb3 hblk hown hcc
      go_wp2
      go_ret
      have hB4 := below_call HB3.out (below_alloc' (Below.refl w3.heap.size w3) (.cells #[.int .i64 mj.kind, .int .i64 mj.src, .int .i64 mj.dst, .int .i64 mj.gang, .slice a1 mj.pods.length c1, .slice a2 mj.peers.length c2, .bool mj.yes] 26))
      exact ⟨rfl, by rw [HC.out]; exact HREF.out.below hB4, hB4.mono hB, Still.of_below hB4⟩
  · have HD : Hid (decide (0 ≤ i ∧ i < (ms.length : Int)) = false) := decide_eq_false hr
    have HC : Hid (copiedM ms i = ms) := Lib.hid (by rw [copiedM, if_neg (fun k => hr k.1)])
    rw [decide_eq_false (fun k => hr k.1)]
    clear hr hmj
    go_enter Tryd.func21, Tryd.ntmps21
    go_wp2_with fail
    refine (refAt_any B w x ms HREF.out i).mono ?_
    rw [HD.out, ← HMJ.out]
    rintro e w3 ⟨v', rfl, hv', hb3⟩
    obtain ⟨a1, c1, a2, c2, rfl⟩ := msg_agg hv'
    have HB3 := Lib.hid hb3
    clear hv' hb3
    go_wp2
    go_ret
    have hB4 := below_call HB3.out (below_alloc' (Below.refl w3.heap.size w3) (.cells #[.int .i64 mj.kind, .int .i64 mj.src, .int .i64 mj.dst, .int .i64 mj.gang, .slice a1 mj.pods.length c1, .slice a2 mj.peers.length c2, .bool mj.yes] 26))
    exact ⟨rfl, by rw [HC.out]; exact HREF.out.below hB4, hB4.mono hB, Still.of_below hB4⟩
end Go.Proofs.YtpkkjonajimefaaDoor
