/- From each state each message leads to just one. -/
import Derived.Test.YtofofjfmhaggmaaGreatDoorZg
set_option linter.unusedVariables false
set_option linter.unusedSimpArgs false
namespace Go.Proofs.YtofofjfmhaggmaaGreatDoor
open Go.RowKit

abbrev podC (c : Nat) : Array Value := #[.string ⟨#[112]⟩, .int .i64 1, .int .i64 c, .int .i64 0, .slice none 0 0, .slice none 0 0, .bool false]
abbrev holdC (g : Int) (b0 : Nat) : Array Value := #[.int .i64 1, .int .i64 0, .int .i64 1, .int .i64 g, .slice (some ⟨b0, 0, none⟩) 1 1, .slice none 0 0, .bool false]
abbrev prepC (p0 : Nat) : Array Value := #[.int .i64 3, .int .i64 0, .int .i64 1, .int .i64 3, .slice none 0 0, .slice (some ⟨p0, 0, none⟩) 2 2, .bool false]
abbrev KS (b0 b1 p0 p1 : Nat) : List (Nat × Array Value × TypeId) := [(p1, prepC p0, 28), (p0, #[.int .i64 1, .int .i64 2], 3), (b1, holdC 3 b0, 28), (b0, podC 1, 62)]
/-- The cells of the six messages. -/
abbrev rowC (b0 p0 : Nat) (yes : Bool) : Array Value := #[.int .i64 1, .int .i64 0, .int .i64 1, .int .i64 3, .slice (some ⟨b0, 0, none⟩) 1 1, .slice none 0 0, .bool false, .int .i64 3, .int .i64 0, .int .i64 1, .int .i64 3, .slice none 0 0, .slice (some ⟨p0, 0, none⟩) 2 2, .bool false, .int .i64 5, .int .i64 0, .int .i64 1, .int .i64 3, .slice none 0 0, .slice none 0 0, .bool yes, .int .i64 7, .int .i64 2, .int .i64 1, .int .i64 3, .slice none 0 0, .slice none 0 0, .bool false, .int .i64 8, .int .i64 2, .int .i64 1, .int .i64 3, .slice none 0 0, .slice none 0 0, .bool yes, .int .i64 9, .int .i64 0, .int .i64 1, .int .i64 3, .slice none 0 0, .slice none 0 0, .bool false]
/-- One of the six messages, cell by cell. -/
theorem rowC_at {Q : Nat → Prop} {w : World} {b0 p0 k : Nat} (y : Bool) (hk : k < 6) (hh : MsgV Q w (.agg #[.int .i64 1, .int .i64 0, .int .i64 1, .int .i64 3, .slice (some ⟨b0, 0, none⟩) 1 1, .slice none 0 0, .bool false]) (holdM 3 1)) (hp : MsgV Q w (.agg #[.int .i64 3, .int .i64 0, .int .i64 1, .int .i64 3, .slice none 0 0, .slice (some ⟨p0, 0, none⟩) 2 2, .bool false]) prepM) :
    ∃ kd src pa pn pc ea en ec yy, ((rowC b0 p0 y)[k * 7]? = some (.int .i64 kd) ∧ (rowC b0 p0 y)[k * 7 + 1]? = some (.int .i64 src) ∧ (rowC b0 p0 y)[k * 7 + 2]? = some (.int .i64 1) ∧ (rowC b0 p0 y)[k * 7 + 3]? = some (.int .i64 3) ∧ (rowC b0 p0 y)[k * 7 + 4]? = some (.slice pa pn pc) ∧ (rowC b0 p0 y)[k * 7 + 5]? = some (.slice ea en ec) ∧ (rowC b0 p0 y)[k * 7 + 6]? = some (.bool yy)) ∧ MsgV Q w (.agg #[.int .i64 kd, .int .i64 src, .int .i64 1, .int .i64 3, .slice pa pn pc, .slice ea en ec, .bool yy]) (stM k y) := by
  have h6 : k = 0 ∨ k = 1 ∨ k = 2 ∨ k = 3 ∨ k = 4 ∨ k = 5 := by omega
  rcases h6 with rfl | rfl | rfl | rfl | rfl | rfl
  · exact ⟨_, _, _, _, _, _, _, _, _, ⟨rfl, rfl, rfl, rfl, rfl, rfl, rfl⟩, hh⟩
  · exact ⟨_, _, _, _, _, _, _, _, _, ⟨rfl, rfl, rfl, rfl, rfl, rfl, rfl⟩, hp⟩
  · exact ⟨_, _, _, _, _, _, _, _, _, ⟨rfl, rfl, rfl, rfl, rfl, rfl, rfl⟩, bare_v _ _ (decM y) ⟨rfl, rfl⟩⟩
  · exact ⟨_, _, _, _, _, _, _, _, _, ⟨rfl, rfl, rfl, rfl, rfl, rfl, rfl⟩, bare_v _ _ askPM ⟨rfl, rfl⟩⟩
  · exact ⟨_, _, _, _, _, _, _, _, _, ⟨rfl, rfl, rfl, rfl, rfl, rfl, rfl⟩, bare_v _ _ (tellM y) ⟨rfl, rfl⟩⟩
  · exact ⟨_, _, _, _, _, _, _, _, _, ⟨rfl, rfl, rfl, rfl, rfl, rfl, rfl⟩, bare_v _ _ freeM ⟨rfl, rfl⟩⟩
theorem stM_gang (k : Nat) (y : Bool) : (stM k y).gang = (3 : Nat) := by
  unfold stM
  repeat' split
  all_goals rfl
set_option maxHeartbeats 16000000 in
set_option maxRecDepth 100000 in
theorem states_0 (frm kind : Int) (yes : Bool) (w : World) (hw : Fine w) (hn : frm % 6 = 0) : Calls Tryz.prog 4 #[.int .i64 frm, .int .i64 kind, .bool yes] w fun e w' => e = .returned (.bool true) ∧ Below w.heap.size w w' := by
  have HW := Lib.hid hw
  have HN := Lib.hid hn
  clear hw hn
  go_enter Tryz.func4, Tryz.ntmps4
  go_wp2_with fail
  refine (known_any w HW.out).mono ?_
  rintro e w1 ⟨rfl, hb1⟩
  have HB1 := Lib.hid hb1
  have HF1 := Lib.hid (HW.out.below hb1)
  clear hb1
  go_wp2_with fail
  refine (one_any w1 HF1.out 5 (by decide) (by kernel_rfl)).mono ?_
  rintro e w2 ⟨W, s, l, a, b, m, t, tv, x, y, b0, rfl, hO, hP⟩
  have HO := Lib.hid ((OneK.mk (K := []) hO (fun p hp => by cases hp)).add (T := 62) hP.1 (by decide) (by decide))
  clear hO hP
  go_upto_region 4 with fail
  have z1 := alloc_at w2 (.cells (holdC 3 b0) 28)
  have hb1 : Below w2.heap.size w2 (w2.alloc (.cells (holdC 3 b0) 28)) := below_alloc' (Below.refl _ _) _
  generalize World.alloc w2 _ = w3 at z1 hb1 ⊢
  have HO3 := Lib.hid ((HO.out.below (hb1.mono (Nat.le_refl _))).add (T := 28) z1 (by decide) (by decide))
  generalize w2.heap.size = b1 at HO3 ⊢
  clear hb1 z1
  go_wp2_with fail
  refine (within10_any frm 6 (by decide) (by decide) w3).mono ?_
  rintro e w4 ⟨rfl, rfl⟩
  rw [HN.out]
  go_upto_region 8 with fail
  have HO5 := Lib.hid (((HO3.out.below (below_alloc' (Below.refl _ _) (.cells #[.int .i64 1, .int .i64 2] 3))).add (T := 3) (alloc_at _ _) (by decide) (by decide)))
  have hs : (w3.alloc (.cells #[.int .i64 1, .int .i64 2] 3)).heap.size = w3.heap.size + 1 := by simp
  have HK := Lib.hid (((HO5.out.below (below_alloc' (Below.refl _ _) (.cells (prepC w3.heap.size) 28))).add (T := 28) (alloc_at _ _) (by decide) (by decide)))
  rw [hs] at HK
  generalize World.alloc _ (.cells (prepC w3.heap.size) 28) = w5 at HK ⊢
  generalize w3.heap.size = p0 at HK ⊢
  generalize p0 + 1 = p1 at HK ⊢
  have HK : Hid (OneK w1 w5 W s l a b m t tv (h0N 0 5) x y (KS b0 b1 p0 p1)) := HK
  clear hs HO5 HO3 HO HF1
  have HK : Hid (OneK w1 w5 W s l a b m t tv (stA 0) x y (KS b0 b1 p0 p1)) := HK
  obtain ⟨e0, e1, e2, e3, e4⟩ := cells5 HK.out.one.lw.box
  go_wp2_with fail
  refine (state_any HK.out.one.lw.sh 3).mono ?_
  rintro e w6 ⟨rfl, rfl⟩
  rw [show stN ((stA 0).st 3) = 0 from st_at (n := 0) (by decide)]
  go_wp2_with fail
  refine (within10_any kind 6 (by decide) (by decide) w5).mono ?_
  rintro e w6 ⟨rfl, rfl⟩
  obtain ⟨k, hkk, hk6⟩ : ∃ k : Nat, kind % 6 = k ∧ k < 6 := ⟨(kind % 6).toNat, by omega, by omega⟩
  rw [hkk]
  clear hkk
  obtain ⟨c0, c1, c2, c3, c4, c5, c6⟩ := cells7 (HK.out.keep (b1, holdC 3 b0, 28) (by simp [KS])).1
  obtain ⟨d0, d1, d2, d3, d4, d5, d6⟩ := cells7 (HK.out.keep (p1, prepC p0, 28) (by simp [KS])).1
  have HA := Lib.hid ((HK.out.below (below_alloc' (Below.refl _ _) (.cells (rowC b0 p0 yes) 28))).add (T := 28) (alloc_at _ _) (by decide) (by decide))
  obtain ⟨kd, src, pa, pn, pc, ea, en, ec, yy, ⟨r0, r1, r2, r3, r4, r5, r6⟩, hmv⟩ := rowC_at yes hk6 (hold_k HA.out (b0 := b0) (c := 1) 3 (by simp [KS])) (prep_k HA.out (g := p0) (by simp [KS]))
  have q0 := cell_of_block (alloc_at w5 (.cells (rowC b0 p0 yes) 28)) _ _ r0
  have q1 := cell_of_block (alloc_at w5 (.cells (rowC b0 p0 yes) 28)) _ _ r1
  have q2 := cell_of_block (alloc_at w5 (.cells (rowC b0 p0 yes) 28)) _ _ r2
  have q3 := cell_of_block (alloc_at w5 (.cells (rowC b0 p0 yes) 28)) _ _ r3
  have q4 := cell_of_block (alloc_at w5 (.cells (rowC b0 p0 yes) 28)) _ _ r4
  have q5 := cell_of_block (alloc_at w5 (.cells (rowC b0 p0 yes) 28)) _ _ r5
  have q6 := cell_of_block (alloc_at w5 (.cells (rowC b0 p0 yes) 28)) _ _ r6
  have HMV := Lib.hid hmv
  have hk0 : (0 : Int) ≤ (k : Int) := by omega
  have hk1 : (k : Int) < 6 := by omega
  clear r0 r1 r2 r3 r4 r5 r6 hmv
  go_upto_region 23 with fail
  have hB := (HA.out.below (below_alloc' (Below.refl _ _) (.cells #[.int .i64 kd, .int .i64 src, .int .i64 1, .int .i64 3, .slice pa pn pc, .slice ea en ec, .bool yy] 28))).add (T := 28) (alloc_at _ _) (by decide) (by decide)
  have HMV2 := Lib.hid (HMV.out.below (below_alloc' (Below.refl _ _) (.cells #[.int .i64 kd, .int .i64 src, .int .i64 1, .int .i64 3, .slice pa pn pc, .slice ea en ec, .bool yy] 28)))
  rw [show (w5.alloc (.cells (rowC b0 p0 yes) 28)).heap.size = w5.heap.size + 1 by simp] at hB
  generalize World.alloc _ (.cells #[.int .i64 kd, .int .i64 src, .int .i64 1, .int .i64 3, .slice pa pn pc, .slice ea en ec, .bool yy] 28) = w7 at hB HMV2 ⊢
  generalize w5.heap.size + 1 = g7 at hB ⊢
  have HK := Lib.hid hB
  clear hB HA HMV e0 e1 e2 e3 e4 c0 c1 c2 c3 c4 c5 c6 d0 d1 d2 d3 d4 d5 d6 q0 q1 q2 q3 q4 q5 q6
  go_upto_region 23 with fail
  have hfB : ∀ w6, Below w7.heap.size w7.drew w6 → Below w7.heap.size w7 w6 := fun w6 hb => (Below.refl w7.heap.size w7).drew.trans hb
  have HFB := Lib.hid hfB
  clear hfB
  refine' Par.wp_region_pars (fun w w' => Below w.heap.size w w') 5 (by kernel_rfl) (by kernel_rfl) (by kernel_rfl) (by kernel_rfl) (by kernel_rfl) (by kernel_rfl)
    (fun w => Below.refl _ w) (fun h k => below_call h k) (fun vals => ?_)
  rotate_left
  simp only [List.take_succ_cons, List.take_zero, List.drop_succ_cons, List.drop_zero]
  iterate 3 (apply Par.par_x rfl; (focus (intro w6 hR hD K hK; replace hK := Lib.hid hK; skip; clear hR hD; go_simp; exact hK.out _ (Below.refl _ _))); simp only [Act.put, List.setIfInBounds_toArray, List.set_cons_zero, List.set_cons_succ, Nat.reduceAdd, List.cons_append, List.nil_append])
  (apply Par.par_x rfl; (focus (intro w6 hR hD K hK; replace hK := Lib.hid hK; obtain ⟨e0, e1, e2, e3, e4⟩ := cells5 (block_below HK.out.one.lw.box (HFB.out w6 hR)); clear hR hD; go_simp; exact hK.out _ (Below.refl _ _))); simp only [Act.put, List.setIfInBounds_toArray, List.set_cons_zero, List.set_cons_succ, Nat.reduceAdd, List.cons_append, List.nil_append])
  (apply Par.par_x rfl; (focus (intro w6 hR hD K hK; replace hK := Lib.hid hK; obtain ⟨e0, e1, e2, e3, e4, e5, e6⟩ := cells7 (block_below (HK.out.keep (g7, #[.int .i64 kd, .int .i64 src, .int .i64 1, .int .i64 3, .slice pa pn pc, .slice ea en ec, .bool yy], 28) (by simp)).1 (HFB.out w6 hR)); clear hR hD; go_simp; exact hK.out _ (Below.refl _ _))); simp only [Act.put, List.setIfInBounds_toArray, List.set_cons_zero, List.set_cons_succ, Nat.reduceAdd, List.cons_append, List.nil_append])
  refine Par.par_end fun w8 hR hp => ?_
  have HK8 := Lib.hid (And.intro (HK.out.below (HFB.out w8 hR)) (HMV2.out.below (HFB.out w8 hR)))
  clear hp hR HFB
  go_wp2_with fail
  refine (HK8.out.1.get (stA_inv 0).1 (by decide) (Nat.le_trans (stA_inv 0).2 (by decide)) HK8.out.2 3 (stM_gang k yes) (stM_b k yes)).mono ?_
  rintro e w9 ⟨⟨v, rfl, -⟩, ⟨tv2, hk⟩, -⟩
  have HOK := Lib.hid ((stA_inv 0).1.get (stM_b k yes)).ok
  have hse : stN (((stA 0).get (stM k yes)).1.st 3) = wantN 0 k yes ∧ (((stA 0).get (stM k yes)).1.led.get 3).length = if hadN (wantN 0 k yes) then 1 else 0 := st_end (n := 0) (by decide) hk6 yes
  generalize ((stA 0).get (stM k yes)).1 = r at hk hse HOK
  have HK := Lib.hid hk
  obtain ⟨e0, e1, e2, e3, e4⟩ := cells5 HK.out.one.lw.box
  clear hk HK8 HMV2 hk0 hk1
  have h6 : (k = 0 ∨ k = 1 ∨ k = 2 ∨ k = 3 ∨ k = 4 ∨ k = 5) := by omega
  cases yes <;> rcases h6 with rfl | rfl | rfl | rfl | rfl | rfl
  all_goals
    simp [wantN, hadN] at hse
    have HSE := Lib.hid hse
    clear hse
    go_wp2_with fail
    refine (state_any HK.out.one.lw.sh 3).mono ?_
    rintro e w10 ⟨rfl, rfl⟩
    rw [HSE.out.1]
    go_wp2_with fail
    refine (splaces_any HK.out.one.lw.sh HOK.out HK.out.one.lw.old 3).mono ?_
    rintro e w10 ⟨pv, rfl, hp, hb⟩
    obtain ⟨pa, pc, rfl⟩ := placesQ_slice hp
    have HB := Lib.hid hb
    have hl2 := HSE.out.2
    clear hp hb
    go_wp2
    go_ret
    exact ⟨rfl, below_call HB1.out (below_call HK.out.one.below HB.out)⟩
set_option maxHeartbeats 16000000 in
set_option maxRecDepth 100000 in
theorem states_1 (frm kind : Int) (yes : Bool) (w : World) (hw : Fine w) (hn : frm % 6 = 1) : Calls Tryz.prog 4 #[.int .i64 frm, .int .i64 kind, .bool yes] w fun e w' => e = .returned (.bool true) ∧ Below w.heap.size w w' := by
  have HW := Lib.hid hw
  have HN := Lib.hid hn
  clear hw hn
  go_enter Tryz.func4, Tryz.ntmps4
  go_wp2_with fail
  refine (known_any w HW.out).mono ?_
  rintro e w1 ⟨rfl, hb1⟩
  have HB1 := Lib.hid hb1
  have HF1 := Lib.hid (HW.out.below hb1)
  clear hb1
  go_wp2_with fail
  refine (one_any w1 HF1.out 5 (by decide) (by kernel_rfl)).mono ?_
  rintro e w2 ⟨W, s, l, a, b, m, t, tv, x, y, b0, rfl, hO, hP⟩
  have HO := Lib.hid ((OneK.mk (K := []) hO (fun p hp => by cases hp)).add (T := 62) hP.1 (by decide) (by decide))
  clear hO hP
  go_upto_region 4 with fail
  have z1 := alloc_at w2 (.cells (holdC 3 b0) 28)
  have hb1 : Below w2.heap.size w2 (w2.alloc (.cells (holdC 3 b0) 28)) := below_alloc' (Below.refl _ _) _
  generalize World.alloc w2 _ = w3 at z1 hb1 ⊢
  have HO3 := Lib.hid ((HO.out.below (hb1.mono (Nat.le_refl _))).add (T := 28) z1 (by decide) (by decide))
  generalize w2.heap.size = b1 at HO3 ⊢
  clear hb1 z1
  go_wp2_with fail
  refine (within10_any frm 6 (by decide) (by decide) w3).mono ?_
  rintro e w4 ⟨rfl, rfl⟩
  rw [HN.out]
  go_upto_region 8 with fail
  have HO5 := Lib.hid (((HO3.out.below (below_alloc' (Below.refl _ _) (.cells #[.int .i64 1, .int .i64 2] 3))).add (T := 3) (alloc_at _ _) (by decide) (by decide)))
  have hs : (w3.alloc (.cells #[.int .i64 1, .int .i64 2] 3)).heap.size = w3.heap.size + 1 := by simp
  have HK := Lib.hid (((HO5.out.below (below_alloc' (Below.refl _ _) (.cells (prepC w3.heap.size) 28))).add (T := 28) (alloc_at _ _) (by decide) (by decide)))
  rw [hs] at HK
  generalize World.alloc _ (.cells (prepC w3.heap.size) 28) = w5 at HK ⊢
  generalize w3.heap.size = p0 at HK ⊢
  generalize p0 + 1 = p1 at HK ⊢
  have HK : Hid (OneK w1 w5 W s l a b m t tv (h0N 0 5) x y (KS b0 b1 p0 p1)) := HK
  clear hs HO5 HO3 HO HF1
  go_upto_region 9 with fail
  have hfB : ∀ w6, Below w5.heap.size w5.drew w6 → Below w5.heap.size w5 w6 := fun w6 hb => (Below.refl w5.heap.size w5).drew.trans hb
  have HFB := Lib.hid hfB
  clear hfB
  refine' Par.wp_region_pars (fun w w' => Below w.heap.size w w') 5 (by kernel_rfl) (by kernel_rfl) (by kernel_rfl) (by kernel_rfl) (by kernel_rfl) (by kernel_rfl)
    (fun w => Below.refl _ w) (fun h k => below_call h k) (fun vals => ?_)
  rotate_left
  simp only [List.take_succ_cons, List.take_zero, List.drop_succ_cons, List.drop_zero]
  iterate 3 (apply Par.par_x rfl; (focus (intro w6 hR hD K hK; replace hK := Lib.hid hK; skip; clear hR hD; go_simp; exact hK.out _ (Below.refl _ _))); simp only [Act.put, List.setIfInBounds_toArray, List.set_cons_zero, List.set_cons_succ, Nat.reduceAdd, List.cons_append, List.nil_append])
  (apply Par.par_x rfl; (focus (intro w6 hR hD K hK; replace hK := Lib.hid hK; obtain ⟨e0, e1, e2, e3, e4⟩ := cells5 (block_below HK.out.one.lw.box (HFB.out w6 hR)); clear hR hD; go_simp; exact hK.out _ (Below.refl _ _))); simp only [Act.put, List.setIfInBounds_toArray, List.set_cons_zero, List.set_cons_succ, Nat.reduceAdd, List.cons_append, List.nil_append])
  (apply Par.par_x rfl; (focus (intro w6 hR hD K hK; replace hK := Lib.hid hK; obtain ⟨e0, e1, e2, e3, e4, e5, e6⟩ := cells7 (block_below (HK.out.keep (b1, holdC 3 b0, 28) (by simp [KS])).1 (HFB.out w6 hR)); clear hR hD; go_simp; exact hK.out _ (Below.refl _ _))); simp only [Act.put, List.setIfInBounds_toArray, List.set_cons_zero, List.set_cons_succ, Nat.reduceAdd, List.cons_append, List.nil_append])
  refine Par.par_end fun w6 hR hp => ?_
  have HK6 := Lib.hid (HK.out.below (HFB.out w6 hR))
  clear hp hR HFB
  go_wp2_with fail
  refine (HK6.out.get (stA1_inv 0).1 (by decide) (Nat.le_trans (stA1_inv 0).2 (by decide)) (hold_k HK6.out (c := 1) 3 (by simp [KS])) 3 rfl (holdM_b (g := 3) (c := 1) (by decide) (by decide))).mono ?_
  rintro e u1 ⟨⟨v, rfl, -⟩, ⟨tv1, hk⟩, -⟩
  have HK := Lib.hid hk
  clear hk HK6
  have HK : Hid (OneK w1 u1 W s l a b m t tv1 (stA1 1) x y (KS b0 b1 p0 p1)) := HK
  have HK : Hid (OneK w1 u1 W s l a b m t tv1 (stA 1) x y (KS b0 b1 p0 p1)) := HK
  obtain ⟨e0, e1, e2, e3, e4⟩ := cells5 HK.out.one.lw.box
  go_wp2_with fail
  refine (state_any HK.out.one.lw.sh 3).mono ?_
  rintro e w6 ⟨rfl, rfl⟩
  rw [show stN ((stA 1).st 3) = 1 from st_at (n := 1) (by decide)]
  go_wp2_with fail
  refine (within10_any kind 6 (by decide) (by decide) u1).mono ?_
  rintro e w6 ⟨rfl, rfl⟩
  obtain ⟨k, hkk, hk6⟩ : ∃ k : Nat, kind % 6 = k ∧ k < 6 := ⟨(kind % 6).toNat, by omega, by omega⟩
  rw [hkk]
  clear hkk
  obtain ⟨c0, c1, c2, c3, c4, c5, c6⟩ := cells7 (HK.out.keep (b1, holdC 3 b0, 28) (by simp [KS])).1
  obtain ⟨d0, d1, d2, d3, d4, d5, d6⟩ := cells7 (HK.out.keep (p1, prepC p0, 28) (by simp [KS])).1
  have HA := Lib.hid ((HK.out.below (below_alloc' (Below.refl _ _) (.cells (rowC b0 p0 yes) 28))).add (T := 28) (alloc_at _ _) (by decide) (by decide))
  obtain ⟨kd, src, pa, pn, pc, ea, en, ec, yy, ⟨r0, r1, r2, r3, r4, r5, r6⟩, hmv⟩ := rowC_at yes hk6 (hold_k HA.out (b0 := b0) (c := 1) 3 (by simp [KS])) (prep_k HA.out (g := p0) (by simp [KS]))
  have q0 := cell_of_block (alloc_at u1 (.cells (rowC b0 p0 yes) 28)) _ _ r0
  have q1 := cell_of_block (alloc_at u1 (.cells (rowC b0 p0 yes) 28)) _ _ r1
  have q2 := cell_of_block (alloc_at u1 (.cells (rowC b0 p0 yes) 28)) _ _ r2
  have q3 := cell_of_block (alloc_at u1 (.cells (rowC b0 p0 yes) 28)) _ _ r3
  have q4 := cell_of_block (alloc_at u1 (.cells (rowC b0 p0 yes) 28)) _ _ r4
  have q5 := cell_of_block (alloc_at u1 (.cells (rowC b0 p0 yes) 28)) _ _ r5
  have q6 := cell_of_block (alloc_at u1 (.cells (rowC b0 p0 yes) 28)) _ _ r6
  have HMV := Lib.hid hmv
  have hk0 : (0 : Int) ≤ (k : Int) := by omega
  have hk1 : (k : Int) < 6 := by omega
  clear r0 r1 r2 r3 r4 r5 r6 hmv
  go_upto_region 23 with fail
  have hB := (HA.out.below (below_alloc' (Below.refl _ _) (.cells #[.int .i64 kd, .int .i64 src, .int .i64 1, .int .i64 3, .slice pa pn pc, .slice ea en ec, .bool yy] 28))).add (T := 28) (alloc_at _ _) (by decide) (by decide)
  have HMV2 := Lib.hid (HMV.out.below (below_alloc' (Below.refl _ _) (.cells #[.int .i64 kd, .int .i64 src, .int .i64 1, .int .i64 3, .slice pa pn pc, .slice ea en ec, .bool yy] 28)))
  rw [show (u1.alloc (.cells (rowC b0 p0 yes) 28)).heap.size = u1.heap.size + 1 by simp] at hB
  generalize World.alloc _ (.cells #[.int .i64 kd, .int .i64 src, .int .i64 1, .int .i64 3, .slice pa pn pc, .slice ea en ec, .bool yy] 28) = w7 at hB HMV2 ⊢
  generalize u1.heap.size + 1 = g7 at hB ⊢
  have HK := Lib.hid hB
  clear hB HA HMV e0 e1 e2 e3 e4 c0 c1 c2 c3 c4 c5 c6 d0 d1 d2 d3 d4 d5 d6 q0 q1 q2 q3 q4 q5 q6
  go_upto_region 23 with fail
  have hfB : ∀ w6, Below w7.heap.size w7.drew w6 → Below w7.heap.size w7 w6 := fun w6 hb => (Below.refl w7.heap.size w7).drew.trans hb
  have HFB := Lib.hid hfB
  clear hfB
  refine' Par.wp_region_pars (fun w w' => Below w.heap.size w w') 5 (by kernel_rfl) (by kernel_rfl) (by kernel_rfl) (by kernel_rfl) (by kernel_rfl) (by kernel_rfl)
    (fun w => Below.refl _ w) (fun h k => below_call h k) (fun vals => ?_)
  rotate_left
  simp only [List.take_succ_cons, List.take_zero, List.drop_succ_cons, List.drop_zero]
  iterate 3 (apply Par.par_x rfl; (focus (intro w6 hR hD K hK; replace hK := Lib.hid hK; skip; clear hR hD; go_simp; exact hK.out _ (Below.refl _ _))); simp only [Act.put, List.setIfInBounds_toArray, List.set_cons_zero, List.set_cons_succ, Nat.reduceAdd, List.cons_append, List.nil_append])
  (apply Par.par_x rfl; (focus (intro w6 hR hD K hK; replace hK := Lib.hid hK; obtain ⟨e0, e1, e2, e3, e4⟩ := cells5 (block_below HK.out.one.lw.box (HFB.out w6 hR)); clear hR hD; go_simp; exact hK.out _ (Below.refl _ _))); simp only [Act.put, List.setIfInBounds_toArray, List.set_cons_zero, List.set_cons_succ, Nat.reduceAdd, List.cons_append, List.nil_append])
  (apply Par.par_x rfl; (focus (intro w6 hR hD K hK; replace hK := Lib.hid hK; obtain ⟨e0, e1, e2, e3, e4, e5, e6⟩ := cells7 (block_below (HK.out.keep (g7, #[.int .i64 kd, .int .i64 src, .int .i64 1, .int .i64 3, .slice pa pn pc, .slice ea en ec, .bool yy], 28) (by simp)).1 (HFB.out w6 hR)); clear hR hD; go_simp; exact hK.out _ (Below.refl _ _))); simp only [Act.put, List.setIfInBounds_toArray, List.set_cons_zero, List.set_cons_succ, Nat.reduceAdd, List.cons_append, List.nil_append])
  refine Par.par_end fun w8 hR hp => ?_
  have HK8 := Lib.hid (And.intro (HK.out.below (HFB.out w8 hR)) (HMV2.out.below (HFB.out w8 hR)))
  clear hp hR HFB
  go_wp2_with fail
  refine (HK8.out.1.get (stA_inv 1).1 (by decide) (Nat.le_trans (stA_inv 1).2 (by decide)) HK8.out.2 3 (stM_gang k yes) (stM_b k yes)).mono ?_
  rintro e w9 ⟨⟨v, rfl, -⟩, ⟨tv2, hk⟩, -⟩
  have HOK := Lib.hid ((stA_inv 1).1.get (stM_b k yes)).ok
  have hse : stN (((stA 1).get (stM k yes)).1.st 3) = wantN 1 k yes ∧ (((stA 1).get (stM k yes)).1.led.get 3).length = if hadN (wantN 1 k yes) then 1 else 0 := st_end (n := 1) (by decide) hk6 yes
  generalize ((stA 1).get (stM k yes)).1 = r at hk hse HOK
  have HK := Lib.hid hk
  obtain ⟨e0, e1, e2, e3, e4⟩ := cells5 HK.out.one.lw.box
  clear hk HK8 HMV2 hk0 hk1
  have h6 : (k = 0 ∨ k = 1 ∨ k = 2 ∨ k = 3 ∨ k = 4 ∨ k = 5) := by omega
  cases yes <;> rcases h6 with rfl | rfl | rfl | rfl | rfl | rfl
  all_goals
    simp [wantN, hadN] at hse
    have HSE := Lib.hid hse
    clear hse
    go_wp2_with fail
    refine (state_any HK.out.one.lw.sh 3).mono ?_
    rintro e w10 ⟨rfl, rfl⟩
    rw [HSE.out.1]
    go_wp2_with fail
    refine (splaces_any HK.out.one.lw.sh HOK.out HK.out.one.lw.old 3).mono ?_
    rintro e w10 ⟨pv, rfl, hp, hb⟩
    obtain ⟨pa, pc, rfl⟩ := placesQ_slice hp
    have HB := Lib.hid hb
    have hl2 := HSE.out.2
    clear hp hb
    go_wp2
    go_ret
    exact ⟨rfl, below_call HB1.out (below_call HK.out.one.below HB.out)⟩
end Go.Proofs.YtofofjfmhaggmaaGreatDoor
