/- The post: a message taken, a message that comes twice. -/
import Derived.Test.YtpkkjonajimefaaDoorE
set_option linter.unusedVariables false
set_option linter.unusedSimpArgs false
namespace Go.Proofs.YtpkkjonajimefaaDoor
open Go.RowKit

def takenM (ms : List MsgM) (i : Int) : List MsgM := if 0 ≤ i ∧ i < ms.length then ms.eraseIdx i.toNat else ms
def atM (ms : List MsgM) (i : Int) : MsgM := if 0 ≤ i ∧ i < ms.length then ms.getD i.toNat noMsg else noMsg
def copiedM (ms : List MsgM) (i : Int) : List MsgM := if (0 ≤ i ∧ i < ms.length) ∧ ms.length < 200 then ms ++ [ms.getD i.toNat noMsg] else ms

set_option maxHeartbeats 4000000 in
set_option maxRecDepth 100000 in
theorem take_any (B : Nat) (w : World) (p : Value) (ms : List MsgM) (h : PostAt B w p ms) (hB : B ≤ w.heap.size) (i : Int) : Calls Tryd.prog 17 #[p, .int .i64 i] w fun e w' =>
    ∃ v, e = .returned (.tuple #[v, .bool (decide (0 ≤ i ∧ i < ms.length))]) ∧ MsgAt w.heap.size w' v (atM ms i) ∧ PostAt B w' p (takenM ms i) ∧ Below B w w' ∧ Still Rest w w' := by
  obtain ⟨b, r, rfl, h0, h1, h2⟩ := h
  have H1 := Lib.hid h1
  have H2 := Lib.hid h2
  have c0 : ∀ o, (w.alloc o).cell? ⟨b, 0, none⟩ = some (.iface 59 (.pointer (some ⟨r, 0, none⟩))) := fun o => cell_of_block (block_below h1 (below_alloc' (Below.refl _ _) _)) 0 _ rfl
  clear h1 h2
  obtain ⟨mj, hmj⟩ : ∃ mj, mj = atM ms i := ⟨_, rfl⟩
  obtain ⟨tk, htk⟩ : ∃ tk, tk = takenM ms i := ⟨_, rfl⟩
  have HMJ := Lib.hid hmj
  have HTK := Lib.hid htk
  rw [← hmj, ← htk]
  clear hmj htk
  by_cases hr : 0 ≤ i ∧ i < (ms.length : Int)
  · obtain ⟨j, rfl⟩ : ∃ j : Nat, i = j := ⟨i.toNat, by omega⟩
    have hj : j < ms.length := by omega
    have HE : Hid (tk = ms.eraseIdx j) := by rw [HTK.out, takenM, if_pos hr, Int.toNat_natCast]; rfl
    rw [show decide (0 ≤ (j : Int) ∧ (j : Int) < (ms.length : Int)) = true from decide_eq_true hr]
    have HD : Hid (decide (0 ≤ (j : Int) ∧ (j : Int) < (ms.length : Int)) = true) := decide_eq_true hr
    clear hr HTK
    go_enter Tryd.func17, Tryd.ntmps17
    go_wp2_with (go_at_call 84; fail)
    generalize hw2 : World.alloc w _ = w2
    have hb2 : Below w.heap.size w w2 := by rw [← hw2]; exact below_alloc' (Below.refl _ _) _
    have z0 : w2.heap[w.heap.size]? = some (.cells #[.int .i64 0, .int .i64 0, .int .i64 0, .int .i64 0, .slice none 0 0, .slice none 0 0, .bool false] 26 (0, 0)) := by rw [← hw2]; exact alloc_at _ _
    clear hw2 c0
    refine (rat_any B w2 r ms (H2.out.below hb2) j).mono ?_
    rw [HD.out, show (if 0 ≤ (j : Int) ∧ (j : Int) < (ms.length : Int) then ms.getD (j : Int).toNat noMsg else noMsg) = mj from HMJ.out.symm]
    rintro e w3 ⟨v', rfl, hv', hb3⟩
    have HV := Lib.hid hv'
    obtain ⟨u', x', rfl, ⟨cu, hru, _⟩, hix⟩ := hv'
    obtain ⟨a1, c1, rfl⟩ := own_slicen hru
    obtain ⟨a2, c2, rfl⟩ := own_slicen hix
    have HB3 := Lib.hid (below_call hb2 hb3)
    have Y0 := Lib.hid (block_below z0 hb3)
    have HS2 := Lib.hid hb2.size
    have c3 : ∀ o, (w3.alloc o).cell? ⟨b, 0, none⟩ = some (.iface 59 (.pointer (some ⟨r, 0, none⟩))) := fun o => cell_of_block (block_below H1.out (below_alloc' HB3.out _)) 0 _ rfl
    clear z0 hb2 hb3 hru hix
    go_wp2_with (go_at_call 87; fail)
    generalize hw4 : World.alloc w3 _ = w4
    have hb4 : Below w3.heap.size w3 w4 := by rw [← hw4]; exact below_alloc' (Below.refl _ _) _
    have z4 : w4.heap[w3.heap.size]? = some (.cells #[.int .i64 mj.kind, .int .i64 mj.src, .int .i64 mj.dst, .int .i64 mj.gang, .slice a1 mj.pods.length c1, .slice a2 mj.peers.length c2, .bool mj.yes] 26 (0, 0)) := by rw [← hw4]; exact alloc_at _ _
    clear hw4 c3
    have hB4 := below_call HB3.out hb4
    refine (rtake_any B w4 r ms (H2.out.below hB4) (Nat.le_trans hB hB4.size) j hj).mono ?_
    rintro e w5 ⟨rfl, hbag, hb5, hs5⟩
    have hz5 := hs5 _ _ _ ⟨by decide, by decide⟩ z4
    have hy5 := hs5 _ _ _ ⟨by decide, by decide⟩ (block_below Y0.out hb4)
    have m0 := cell_of_block hz5 0 _ rfl
    have m1 := cell_of_block hz5 1 _ rfl
    have m2 := cell_of_block hz5 2 _ rfl
    have m3 := cell_of_block hz5 3 _ rfl
    have m4 := cell_of_block hz5 4 _ rfl
    have m5 := cell_of_block hz5 5 _ rfl
    have m6 := cell_of_block hz5 6 _ rfl
    have n0 := cell_of_block hy5 0 _ rfl
    have n1 := cell_of_block hy5 1 _ rfl
    have n2 := cell_of_block hy5 2 _ rfl
    have n3 := cell_of_block hy5 3 _ rfl
    have n4 := cell_of_block hy5 4 _ rfl
    have n5 := cell_of_block hy5 5 _ rfl
    have n6 := cell_of_block hy5 6 _ rfl
    have fr := free_of_block hy5
    have HV5 := Lib.hid (((HV.out.base HS2.out).still (Still.of_below hb4)).still (parts_rest hs5))
    have HY5 := Lib.hid hy5
    have HBAG := Lib.hid hbag
    have HB5 := Lib.hid ((hB4.mono hB).trans hb5)
    have HS5 := Lib.hid ((Still.of_below hB4).trans hs5)
    clear hz5 hy5 hbag hb5 hs5 hb4 hB4 z4
    go_wp2
    obtain ⟨zf, hbf⟩ := set7 w5 w.heap.size _ _ (.int .i64 mj.kind) (.int .i64 mj.src) (.int .i64 mj.dst) (.int .i64 mj.gang) (.slice a1 mj.pods.length c1) (.slice a2 mj.peers.length c2) (.bool mj.yes) HY5.out rfl
    generalize hwf : World.setCell _ _ _ = wf at zf hbf ⊢
    clear hwf m0 m1 m2 m3 m4 m5 m6 n0 n1 n2 n3 n4 n5 n6 fr
    have f0 := cell_of_block zf 0 _ rfl
    have f1 := cell_of_block zf 1 _ rfl
    have f2 := cell_of_block zf 2 _ rfl
    have f3 := cell_of_block zf 3 _ rfl
    have f4 := cell_of_block zf 4 _ rfl
    have f5 := cell_of_block zf 5 _ rfl
    have f6 := cell_of_block zf 6 _ rfl
    refine bodyPost_ret (v := .tuple #[.agg #[.int .i64 mj.kind, .int .i64 mj.src, .int .i64 mj.dst, .int .i64 mj.gang, .slice a1 mj.pods.length c1, .slice a2 mj.peers.length c2, .bool mj.yes], .bool true]) (by simp [results, Tryd.results17, go_sem, f0, f1, f2, f3, f4, f5, f6]) rfl ⟨_, rfl, ?_, ?_, ?_, ?_⟩
    · exact HV5.out.still (hbf.still HY5.out (by unfold Parts; decide))
    · rw [HE.out]
      exact ⟨b, r, rfl, h0, (hbf.still HY5.out (T := fun e => e = 66) (by decide)) _ _ _ rfl (HS5.out _ _ _ ⟨by decide, by decide⟩ H1.out), HBAG.out.of_still (hbf.still HY5.out (by unfold Parts; decide))⟩
    · exact Below.but HB5.out hbf hB (Nat.le_trans hB HB5.out.size)
    · exact fun g cs e he hg => (hbf.block g (Nat.lt_of_lt_of_le (Array.getElem?_eq_some_iff.1 hg).1 HB5.out.size) (Nat.ne_of_lt (Array.getElem?_eq_some_iff.1 hg).1)).trans (HS5.out g cs e he hg)
  · have HE : Hid (tk = ms) := by rw [HTK.out, takenM, if_neg hr]; rfl
    rw [show decide (0 ≤ i ∧ i < (ms.length : Int)) = false from decide_eq_false hr]
    have HD : Hid (decide (0 ≤ i ∧ i < (ms.length : Int)) = false) := decide_eq_false hr
    clear hr HTK
    go_enter Tryd.func17, Tryd.ntmps17
    go_wp2_with (go_at_call 84; fail)
    generalize hw2 : World.alloc w _ = w2
    have hb2 : Below w.heap.size w w2 := by rw [← hw2]; exact below_alloc' (Below.refl _ _) _
    have z0 : w2.heap[w.heap.size]? = some (.cells #[.int .i64 0, .int .i64 0, .int .i64 0, .int .i64 0, .slice none 0 0, .slice none 0 0, .bool false] 26 (0, 0)) := by rw [← hw2]; exact alloc_at _ _
    clear hw2 c0
    refine (rat_any B w2 r ms (H2.out.below hb2) i).mono ?_
    rw [HD.out, show (if 0 ≤ i ∧ i < (ms.length : Int) then ms.getD i.toNat noMsg else noMsg) = mj from HMJ.out.symm]
    rintro e w3 ⟨v', rfl, hv', hb3⟩
    have HV := Lib.hid hv'
    obtain ⟨u', x', rfl, ⟨cu, hru, _⟩, hix⟩ := hv'
    obtain ⟨a1, c1, rfl⟩ := own_slicen hru
    obtain ⟨a2, c2, rfl⟩ := own_slicen hix
    have HB3 := Lib.hid (below_call hb2 hb3)
    have HS2 := Lib.hid hb2.size
    have hy3 := block_below z0 hb3
    have n0 := cell_of_block hy3 0 _ rfl
    have n1 := cell_of_block hy3 1 _ rfl
    have n2 := cell_of_block hy3 2 _ rfl
    have n3 := cell_of_block hy3 3 _ rfl
    have n4 := cell_of_block hy3 4 _ rfl
    have n5 := cell_of_block hy3 5 _ rfl
    have n6 := cell_of_block hy3 6 _ rfl
    have fr := free_of_block hy3
    have HY3 := Lib.hid hy3
    have hne : w.heap.size < w3.heap.size := Nat.lt_of_lt_of_le (by have := (Array.getElem?_eq_some_iff.1 z0).1; exact this) hb3.size
    clear z0 hb2 hb3 hru hix hy3
    go_wp2
    obtain ⟨zf, hbf⟩ := set7 w3 w.heap.size _ _ (.int .i64 mj.kind) (.int .i64 mj.src) (.int .i64 mj.dst) (.int .i64 mj.gang) (.slice a1 mj.pods.length c1) (.slice a2 mj.peers.length c2) (.bool mj.yes) HY3.out rfl
    generalize hwf : World.setCell _ _ _ = wf at zf hbf ⊢
    clear hwf n0 n1 n2 n3 n4 n5 n6 fr
    generalize hw4 : World.alloc wf _ = w4
    have hb4 : Below wf.heap.size wf w4 := by rw [← hw4]; exact below_alloc' (Below.refl _ _) _
    clear hw4
    have z4 := block_below zf hb4
    have f0 := cell_of_block z4 0 _ rfl
    have f1 := cell_of_block z4 1 _ rfl
    have f2 := cell_of_block z4 2 _ rfl
    have f3 := cell_of_block z4 3 _ rfl
    have f4 := cell_of_block z4 4 _ rfl
    have f5 := cell_of_block z4 5 _ rfl
    have f6 := cell_of_block z4 6 _ rfl
    have hBf := Below.but HB3.out hbf (Nat.le_refl _) HB3.out.size
    have hB4 := below_call hBf hb4
    refine bodyPost_ret (v := .tuple #[.agg #[.int .i64 mj.kind, .int .i64 mj.src, .int .i64 mj.dst, .int .i64 mj.gang, .slice a1 mj.pods.length c1, .slice a2 mj.peers.length c2, .bool mj.yes], .bool false]) (by simp [results, Tryd.results17, go_sem, f0, f1, f2, f3, f4, f5, f6]) rfl ⟨_, rfl, ?_, ?_, ?_, ?_⟩
    · exact ((HV.out.base HS2.out).still (hbf.still HY3.out (by unfold Parts; decide))).still (Still.of_below hb4)
    · rw [HE.out]
      exact ⟨b, r, rfl, h0, block_below H1.out hB4, H2.out.below hB4⟩
    · exact hB4.mono hB
    · exact Still.of_below hB4

set_option maxHeartbeats 4000000 in
set_option maxRecDepth 100000 in
theorem copy_any (B : Nat) (w : World) (p : Value) (ms : List MsgM) (h : PostAt B w p ms) (hB : B ≤ w.heap.size) (i : Int) : Calls Tryd.prog 20 #[p, .int .i64 i] w fun e w' =>
    e = .returned (.bool (decide ((0 ≤ i ∧ i < ms.length) ∧ ms.length < 200))) ∧ PostAt B w' p (copiedM ms i) ∧ Below B w w' ∧ Still Rest w w' := by
  obtain ⟨b, r, rfl, h0, h1, h2⟩ := h
  have c0 := cell_of_block h1 0 _ rfl
  have H1 := Lib.hid h1
  have H2 := Lib.hid h2
  clear h1 h2
  obtain ⟨mj, hmj⟩ : ∃ mj, mj = atM ms i := ⟨_, rfl⟩
  obtain ⟨tk, htk⟩ : ∃ tk, tk = copiedM ms i := ⟨_, rfl⟩
  obtain ⟨bj, hbj⟩ : ∃ bj, bj = decide ((0 ≤ i ∧ i < (ms.length : Int)) ∧ ms.length < 200) := ⟨_, rfl⟩
  have HMJ := Lib.hid hmj
  have HTK := Lib.hid htk
  have HBJ := Lib.hid hbj
  rw [← hbj, ← htk]
  clear hmj htk hbj
  by_cases hr : 0 ≤ i ∧ i < (ms.length : Int)
  · have HR := Lib.hid hr
    have HD : Hid (decide (0 ≤ i ∧ i < (ms.length : Int)) = true) := decide_eq_true hr
    have HFEW : Hid mj.few := by
      rw [HMJ.out, atM, if_pos hr]
      obtain ⟨_, _, _, _, _, h3⟩ := H2.out
      exact (h3 i.toNat (by omega)).2
    clear hr
    go_enter Tryd.func20, Tryd.ntmps20
    go_wp2_with (go_at_call 84; fail)
    refine (rat_any B w r ms H2.out i).mono ?_
    rw [HD.out, show (if 0 ≤ i ∧ i < (ms.length : Int) then ms.getD i.toNat noMsg else noMsg) = mj from HMJ.out.symm]
    rintro e w3 ⟨v', rfl, hv', hb3⟩
    have HV := Lib.hid hv'
    obtain ⟨u', x', rfl, ⟨cu, hru, _⟩, hix⟩ := hv'
    obtain ⟨a1, c1, rfl⟩ := own_slicen hru
    obtain ⟨a2, c2, rfl⟩ := own_slicen hix
    have HB3 := Lib.hid hb3
    clear hb3 hru hix c0
    go_wp2
    generalize hw4 : World.alloc w3 _ = w4
    have hb4 : Below w3.heap.size w3 w4 := by rw [← hw4]; exact below_alloc' (Below.refl _ _) _
    have z4 : w4.heap[w3.heap.size]? = some (.cells #[.int .i64 mj.kind, .int .i64 mj.src, .int .i64 mj.dst, .int .i64 mj.gang, .slice a1 mj.pods.length c1, .slice a2 mj.peers.length c2, .bool mj.yes] 26 (0, 0)) := by rw [← hw4]; exact alloc_at _ _
    clear hw4
    have zb := block_below (block_below H1.out HB3.out) hb4
    have e0 : ∀ w6, Below w4.drew.heap.size w4.drew w6 → w6.cell? ⟨b, 0, none⟩ = some (.iface 59 (.pointer (some ⟨r, 0, none⟩))) := fun w6 h => cell_of_block (block_below (w := w4.drew) zb h) 0 _ rfl
    have E0 := Lib.hid e0
    have Z4 := Lib.hid z4
    have HB4 := Lib.hid (below_call HB3.out hb4)
    have HV4 := Lib.hid (HV.out.still (Still.of_below hb4))
    clear zb e0 z4 hb4
    refine' Par.wp_region_pars (fun w w' => Below w.heap.size w w') 7 (by kernel_rfl) (by kernel_rfl) (by kernel_rfl) (by kernel_rfl) (by kernel_rfl) (by kernel_rfl)
      (fun w => Below.refl _ w) (fun h k => below_call h k) (fun vals => ?_)
    rotate_left
    simp only [List.take_succ_cons, List.take_zero, List.drop_succ_cons, List.drop_zero]
    (apply Par.par_x rfl; (focus (intro w6 hR hD K hK; replace hK := Lib.hid hK; skip; clear hR hD; go_simp; exact hK.out _ (Below.refl _ _))); simp only [Act.put, List.setIfInBounds_toArray, List.set_cons_zero, List.set_cons_succ, Nat.reduceAdd, List.cons_append, List.nil_append])
    (apply Par.par_x rfl; (focus (intro w6 hR hD K hK; replace hK := Lib.hid hK; skip; clear hR hD; go_simp; exact hK.out _ (Below.refl _ _))); simp only [Act.put, List.setIfInBounds_toArray, List.set_cons_zero, List.set_cons_succ, Nat.reduceAdd, List.cons_append, List.nil_append])
    (apply Par.par_g; (focus (intro w6 hR hD K hK; replace hK := Lib.hid hK; skip; clear hR hD; go_simp; exact hK.out _ (Below.refl _ _))); simp only [Act.put, List.setIfInBounds_toArray, List.set_cons_zero, List.set_cons_succ, Nat.reduceAdd, List.cons_append, List.nil_append])
    (apply Par.par_g; (focus (intro w6 hR hD K hK; replace hK := Lib.hid hK; skip; clear hR hD; go_simp; exact hK.out _ (Below.refl _ _))); simp only [Act.put, List.setIfInBounds_toArray, List.set_cons_zero, List.set_cons_succ, Nat.reduceAdd, List.cons_append, List.nil_append])
    (apply Par.par_g; (focus (intro w6 hR hD K hK; replace hK := Lib.hid hK; skip; clear hR hD; go_simp; exact hK.out _ (Below.refl _ _))); simp only [Act.put, List.setIfInBounds_toArray, List.set_cons_zero, List.set_cons_succ, Nat.reduceAdd, List.cons_append, List.nil_append])
    (apply Par.par_g; (focus (intro w6 hR hD K hK; replace hK := Lib.hid hK; have e0 := E0.out w6 hR; clear hR hD; go_simp; exact hK.out _ (Below.refl _ _))); simp only [Act.put, List.setIfInBounds_toArray, List.set_cons_zero, List.set_cons_succ, Nat.reduceAdd, List.cons_append, List.nil_append])
    (apply Par.par_g; (focus (intro w6 hR hD K hK; replace hK := Lib.hid hK; have z := block_below (w := w4.drew) Z4.out hR; have e0 := cell_of_block z 0 _ rfl; have e1 := cell_of_block z 1 _ rfl; have e2 := cell_of_block z 2 _ rfl; have e3 := cell_of_block z 3 _ rfl; have e4 := cell_of_block z 4 _ rfl; have e5 := cell_of_block z 5 _ rfl; have e6 := cell_of_block z 6 _ rfl; clear z; clear hR hD; go_simp; exact hK.out _ (Below.refl _ _))); simp only [Act.put, List.setIfInBounds_toArray, List.set_cons_zero, List.set_cons_succ, Nat.reduceAdd, List.cons_append, List.nil_append])
    refine Par.par_end fun w6 hR hp => ?_
    clear hp
    have hb6 := below_call HB4.out.drew hR
    have HB6 := Lib.hid hb6
    have HV6 := Lib.hid (HV4.out.still (Still.of_below (w := w4.drew) hR))
    clear hR hb6
    have hmeth : ∀ w, (method 241 59 (.pointer (some ⟨r, 0, none⟩)) "joinery/post.put").run Tryd.prog w = .ok (86, .pointer (some ⟨r, 0, none⟩)) w := fun w => by kernel_rfl
    go_wp2_with (go_at_call 86; fail)
    refine (rput_any B w6 r ms (H2.out.below HB6.out) (Nat.le_trans hB HB6.out.size) _ mj (HV6.out.base (Nat.zero_le _)) HFEW.out).mono ?_
    rintro e w7 ⟨rfl, hbag7, hb7, hs7⟩
    have ebj : decide (ms.length < 200) = bj := by
      rw [HBJ.out]
      simp [HR.out]
    have etk : (if ms.length < 200 then ms ++ [mj] else ms) = tk := by
      rw [HTK.out, HMJ.out, copiedM, atM, if_pos HR.out]
      by_cases h : ms.length < 200
      · rw [if_pos h, if_pos ⟨HR.out, h⟩]
      · rw [if_neg h, if_neg (fun k => h k.2)]
    rw [ebj]
    rw [etk] at hbag7
    have HBAG := Lib.hid hbag7
    have HB7 := Lib.hid ((HB6.out.mono hB).trans hb7)
    have HS7 := Lib.hid ((Still.of_below HB6.out).trans hs7)
    clear hbag7 hb7 hs7 ebj etk hmeth
    go_wp2
    go_ret
    exact ⟨rfl, ⟨b, r, rfl, h0, HS7.out _ _ _ ⟨by decide, by decide⟩ H1.out, HBAG.out⟩, HB7.out, HS7.out⟩
  · have HR := Lib.hid hr
    have HD : Hid (decide (0 ≤ i ∧ i < (ms.length : Int)) = false) := decide_eq_false hr
    have ebj : bj = false := by
      rw [HBJ.out]
      exact decide_eq_false fun k => hr k.1
    have etk : tk = ms := by
      rw [HTK.out, copiedM, if_neg (fun k => hr k.1)]
    subst ebj etk
    clear hr HTK HBJ
    go_enter Tryd.func20, Tryd.ntmps20
    go_wp2_with (go_at_call 84; fail)
    refine (rat_any B w r _ H2.out i).mono ?_
    rw [HD.out, show (if 0 ≤ i ∧ i < (tk.length : Int) then tk.getD i.toNat noMsg else noMsg) = mj from HMJ.out.symm]
    rintro e w3 ⟨v', rfl, hv', hb3⟩
    obtain ⟨u', x', rfl, ⟨cu, hru, _⟩, hix⟩ := hv'
    obtain ⟨a1, c1, rfl⟩ := own_slicen hru
    obtain ⟨a2, c2, rfl⟩ := own_slicen hix
    have HB3 := Lib.hid hb3
    clear hb3 hru hix c0
    go_wp2
    generalize hw4 : World.alloc w3 _ = w4
    have hb4 : Below w3.heap.size w3 w4 := by rw [← hw4]; exact below_alloc' (Below.refl _ _) _
    clear hw4
    have HB4 := Lib.hid (below_call HB3.out hb4)
    clear hb4
    refine' Par.wp_region_pars (fun w w' => Below w.heap.size w w') 9 (by kernel_rfl) (by kernel_rfl) (by kernel_rfl) (by kernel_rfl) (by kernel_rfl) (by kernel_rfl)
      (fun w => Below.refl _ w) (fun h k => below_call h k) (fun vals => ?_)
    rotate_left
    simp only [List.take_succ_cons, List.take_zero, List.drop_succ_cons, List.drop_zero]
    (apply Par.par_x rfl; (focus (intro w6 hR hD K hK; replace hK := Lib.hid hK; skip; clear hR hD; go_simp; exact hK.out _ (Below.refl _ _))); simp only [Act.put, List.setIfInBounds_toArray, List.set_cons_zero, List.set_cons_succ, Nat.reduceAdd, List.cons_append, List.nil_append])
    (apply Par.par_x rfl; (focus (intro w6 hR hD K hK; replace hK := Lib.hid hK; skip; clear hR hD; go_simp; exact hK.out _ (Below.refl _ _))); simp only [Act.put, List.setIfInBounds_toArray, List.set_cons_zero, List.set_cons_succ, Nat.reduceAdd, List.cons_append, List.nil_append])
    (apply Par.par_g (e := undef); (focus (intro w6 hR hD K hK; replace hK := Lib.hid hK; clear hR hD; go_simp; exact hK.out _ (Below.refl _ _))); simp only [Act.put, List.setIfInBounds_toArray, List.set_cons_zero, List.set_cons_succ, Nat.reduceAdd, List.cons_append, List.nil_append])
    (apply Par.par_g (e := undef); (focus (intro w6 hR hD K hK; replace hK := Lib.hid hK; clear hR hD; go_simp; exact hK.out _ (Below.refl _ _))); simp only [Act.put, List.setIfInBounds_toArray, List.set_cons_zero, List.set_cons_succ, Nat.reduceAdd, List.cons_append, List.nil_append])
    (apply Par.par_g (e := undef); (focus (intro w6 hR hD K hK; replace hK := Lib.hid hK; clear hR hD; go_simp; exact hK.out _ (Below.refl _ _))); simp only [Act.put, List.setIfInBounds_toArray, List.set_cons_zero, List.set_cons_succ, Nat.reduceAdd, List.cons_append, List.nil_append])
    (apply Par.par_g (e := undef); (focus (intro w6 hR hD K hK; replace hK := Lib.hid hK; clear hR hD; go_simp; exact hK.out _ (Below.refl _ _))); simp only [Act.put, List.setIfInBounds_toArray, List.set_cons_zero, List.set_cons_succ, Nat.reduceAdd, List.cons_append, List.nil_append])
    (apply Par.par_g (e := undef); (focus (intro w6 hR hD K hK; replace hK := Lib.hid hK; clear hR hD; go_simp; exact hK.out _ (Below.refl _ _))); simp only [Act.put, List.setIfInBounds_toArray, List.set_cons_zero, List.set_cons_succ, Nat.reduceAdd, List.cons_append, List.nil_append])
    (apply Par.par_g (e := undef); (focus (intro w6 hR hD K hK; replace hK := Lib.hid hK; clear hR hD; go_simp; exact hK.out _ (Below.refl _ _))); simp only [Act.put, List.setIfInBounds_toArray, List.set_cons_zero, List.set_cons_succ, Nat.reduceAdd, List.cons_append, List.nil_append])
    (apply Par.par_x rfl; (focus (intro w6 hR hD K hK; replace hK := Lib.hid hK; skip; clear hR hD; go_simp; exact hK.out _ (Below.refl _ _))); simp only [Act.put, List.setIfInBounds_toArray, List.set_cons_zero, List.set_cons_succ, Nat.reduceAdd, List.cons_append, List.nil_append])
    refine Par.par_end fun w6 hR hp => ?_
    clear hp
    have HB6 := Lib.hid (below_call HB4.out.drew hR)
    clear hR
    go_wp2
    go_ret
    exact ⟨rfl, ⟨b, r, rfl, h0, block_below H1.out HB6.out, H2.out.below HB6.out⟩, HB6.out.mono hB, Still.of_below HB6.out⟩
end Go.Proofs.YtpkkjonajimefaaDoor
