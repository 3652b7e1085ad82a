/- The reference's post: a message taken. -/
import Derived.Test.YtpkkjonajimefaaDoorRp
set_option linter.unusedVariables false
set_option linter.unusedSimpArgs false
namespace Go.Proofs.YtpkkjonajimefaaDoor
open Go.RowKit

/-- Blocks below number N stay. -/
structure Keep (N : Nat) (w w' : World) : Prop where
  os : w'.os = w.os
  tape : w'.tape = w.tape
  output : w'.output = w.output
  size : w.heap.size ≤ w'.heap.size
  block : ∀ k, k < w.heap.size → k < N → w'.heap[k]? = w.heap[k]?
theorem Keep.refl (N : Nat) (w : World) : Keep N w w := ⟨rfl, rfl, rfl, Nat.le_refl _, fun _ _ _ => rfl⟩
theorem Keep.trans {N : Nat} {a b c : World} (h : Keep N a b) (k : Keep N b c) : Keep N a c :=
  ⟨k.os.trans h.os, k.tape.trans h.tape, k.output.trans h.output, Nat.le_trans h.size k.size, fun i hi hn => (k.block i (Nat.lt_of_lt_of_le hi h.size) hn).trans (h.block i hi hn)⟩
theorem Keep.of_below {N : Nat} {w w' : World} (h : Below w.heap.size w w') : Keep N w w' := ⟨h.os, h.tape, h.output, h.size, fun k hk _ => h.block k hk⟩
theorem Keep.below {N : Nat} {w w' : World} (h : Keep N w w') (hN : N ≤ w.heap.size) : Below N w w' := ⟨h.os, h.tape, h.output, h.size, fun k hk => h.block k (Nat.lt_of_lt_of_le hk hN) hk⟩
theorem Spill.keep {N n : Nat} {T : TypeId} {w w' : World} (h : Spill N n T w w') : Keep N w w' := ⟨h.os, h.tape, h.output, h.size, fun k hk hn => (h.block k hk).resolve_right fun h => by omega⟩

theorem flat_drop (c : Nat → List Value) : ∀ (n k : Nat), k ≤ n → (∀ i, i < n → (c i).length = 7) → (flat n c).drop (k * 7) = flat (n - k) (fun i => c (k + i))
  | 0, k, hk, _ => by
    obtain rfl : k = 0 := by omega
    rfl
  | n + 1, k, hk, h => by
    by_cases e : k = n + 1
    · subst e
      rw [Nat.sub_self]
      have hl := flat_len (n := n + 1) (s := 7) (c := c) h
      rw [List.drop_of_length_le (by omega)]
      rfl
    · have hl := flat_len (n := n) (s := 7) (c := c) (fun i hi => h i (by omega))
      rw [flat_succ, List.drop_append_of_le_length (by rw [hl]; exact Nat.mul_le_mul_right _ (by omega)), flat_drop c n k (by omega) (fun i hi => h i (by omega)), show n + 1 - k = (n - k) + 1 by omega, flat_succ, show k + (n - k) = n by omega]
theorem flat_add (c : Nat → List Value) (n : Nat) : ∀ m, flat (n + m) c = flat n c ++ flat m (fun i => c (n + i))
  | 0 => by simp [flat]
  | m + 1 => by rw [← Nat.add_assoc, flat_succ, flat_add c n m, flat_succ, List.append_assoc]
theorem flat_erase (c : Nat → List Value) {n j : Nat} (hj : j < n) (h : ∀ i, i < n → (c i).length = 7) : flat (n - 1) (fun k => if k < j then c k else c (k + 1)) = flat j c ++ (flat n c).drop ((j + 1) * 7) := by
  rw [flat_drop c n (j + 1) (by omega) h, show n - 1 = j + (n - (j + 1)) by omega, flat_add]
  congr 1
  · exact flat_ext fun i hi => if_pos hi
  · exact flat_ext fun i hi => by rw [if_neg (by omega), show j + i + 1 = j + 1 + i by omega]

def RefOut (e : TypeId) : Prop := e ≠ 38 ∧ e ≠ 26

set_option maxHeartbeats 8000000 in
set_option maxRecDepth 100000 in
theorem refTake_any (B : Nat) (w : World) (x : Value) (ms : List MsgM) (h : RefAt B w x ms) (hB : B ≤ w.heap.size) (hms : ms.length ≤ 1000) (i : Int) : Calls Tryd.prog 18 #[x, .int .i64 i] w fun e w' =>
    ∃ v, e = .returned (.tuple #[v, .bool (decide (0 ≤ i ∧ i < ms.length))]) ∧ MsgAt w.heap.size w' v (atM ms i) ∧ RefAt B w' x (takenM ms i) ∧ Below B w w' ∧ Still (fun e => e ≠ 38) w w' := by
  have HREF := Lib.hid h
  obtain ⟨mj, hmj⟩ : ∃ mj, mj = atM ms i := ⟨_, rfl⟩
  obtain ⟨tk, htk⟩ : ∃ tk, tk = takenM ms i := ⟨_, rfl⟩
  have HMJ := Lib.hid hmj
  have HTK := Lib.hid htk
  have hcon := refAt_any
  rw [← hmj, ← htk]
  clear hmj htk hcon h
  by_cases hr : 0 ≤ i ∧ i < (ms.length : Int)
  · obtain ⟨j, rfl⟩ : ∃ j : Nat, i = j := ⟨i.toNat, by omega⟩
    have hj : j < ms.length := by omega
    have HE : Hid (tk = ms.eraseIdx j) := Lib.hid (by rw [HTK.out, takenM, if_pos hr, Int.toNat_natCast])
    rw [decide_eq_true hr]
    have HD : Hid (decide (0 ≤ (j : Int) ∧ (j : Int) < (ms.length : Int)) = true) := decide_eq_true hr
    clear hr HTK
    go_enter Tryd.func18, Tryd.ntmps18
    go_wp2_with fail
    generalize hw2 : World.alloc w _ = w2
    have hb2 : Below w.heap.size w w2 := by rw [← hw2]; exact below_alloc' (Below.refl _ _) _
    have z0 : w2.heap[w.heap.size]? = some (.cells #[.int .i64 0, .int .i64 0, .int .i64 0, .int .i64 0, .slice none 0 0, .slice none 0 0, .bool false] 26 (0, 0)) := by rw [← hw2]; exact alloc_at _ _
    clear hw2
    refine (refAt_any B w2 x ms (HREF.out.below hb2) j).mono ?_
    rw [HD.out, ← HMJ.out]
    rintro e w3 ⟨v', rfl, hv', hb3⟩
    have HV := Lib.hid hv'
    obtain ⟨u', x', rfl, ⟨cu, hru, _⟩, hix⟩ := hv'
    obtain ⟨a1, c1, rfl⟩ := own_slicen hru
    obtain ⟨a2, c2, rfl⟩ := own_slicen hix
    have HB3 := Lib.hid (below_call hb2 hb3)
    have Y0 := Lib.hid (block_below z0 hb3)
    have HS2 := Lib.hid hb2.size
    clear z0 hb2 hb3 hru hix
    go_upto_region 3 with fail
    generalize hw4 : World.alloc w3 _ = w4
    have hb4 : Below w3.heap.size w3 w4 := by rw [← hw4]; exact below_alloc' (Below.refl _ _) _
    have z4 : w4.heap[w3.heap.size]? = some (.cells #[.int .i64 mj.kind, .int .i64 mj.src, .int .i64 mj.dst, .int .i64 mj.gang, .slice a1 mj.pods.length c1, .slice a2 mj.peers.length c2, .bool mj.yes] 26 (0, 0)) := by rw [← hw4]; exact alloc_at _ _
    clear hw4
    have HB4 := Lib.hid (below_call HB3.out hb4)
    have href4 := HREF.out.below HB4.out
    obtain ⟨b, sl, rfl, hbB, hblk, cc, hown, hcc⟩ := href4
    obtain ⟨g, cap, rfl, hBg, hgs⟩ := (own_forms hown).resolve_left (by rintro ⟨_, h, _⟩; omega)
    have hcap : ms.length ≤ cap := by
      obtain ⟨_, _, _, e, _, _, hc, _⟩ := hown.2.resolve_left (by rintro ⟨h, _⟩; cases h)
      injection e with _ _ e3
      omega
    have hc7 : ∀ i, i < ms.length → (cc i).length = 7 := fun i hi => (hcc i hi).1
    have ka1 : IntKind.i64.wrap ((j : Int) + 1) = ((j + 1 : Nat) : Int) := (kwid (by omega) (by omega)).trans (by omega)
    have hjc : (j : Int) ≤ cap := by omega
    have hjn : ((j : Int) + 1) ≤ ms.length := by omega
    obtain ⟨A, hA, hnews⟩ : ∃ A : Addr, (if cap = j + 1 then (some ⟨g, 0, none⟩ : Option Addr) else some ⟨g, (j + 1) * 7, none⟩) = some A ∧ ∀ w7, Keep w4.heap.size w4.drew w7 → ∀ q u, ((flat ms.length cc).drop ((j + 1) * 7))[q]? = some u → w7.cell? (A.add q) = some u := by
      have hl := flat_len (n := ms.length) (s := 7) (c := cc) hc7
      by_cases h : cap = j + 1
      · refine ⟨_, by rw [if_pos h], fun w7 h7 q u hu => ?_⟩
        have h0 : ((flat ms.length cc).drop ((j + 1) * 7)).length = 0 := by rw [List.length_drop, hl]; omega
        rw [List.length_eq_zero_iff.1 h0] at hu
        simp at hu
      · refine ⟨_, by rw [if_neg h], fun w7 h7 q u hu => ?_⟩
        rw [show (⟨g, (j + 1) * 7, none⟩ : Addr).add q = ⟨g, (j + 1) * 7 + q, none⟩ by unfold Addr.add; split <;> simp_all]
        have hq : (j + 1) * 7 + q < ms.length * 7 := by
          have := (List.getElem?_eq_some_iff.1 hu).1
          rw [List.length_drop, hl] at this
          omega
        refine cell_below (w := w4.drew) ((hown.cellAt _ hq).trans ?_) (h7.below (Nat.le_refl _))
        rw [← hu, List.getElem?_drop]
    have hnew0 : ∀ w7, Keep w4.heap.size w4.drew w7 → ∀ q u, (flat j cc)[q]? = some u → w7.cell? ((⟨g, 0, none⟩ : Addr).add q) = some u := fun w7 h7 q u hu => by
      have h1 := own_take hown (n' := j) (by omega)
      rw [flat_take _ _ (by omega) _ hc7] at h1
      exact cell_below (w := w4.drew) (own_cells h1 q u hu) (h7.below (Nat.le_refl _))
    have hone : ∀ u ∈ flat ms.length cc, u.oneCell' = true := by
      intro u hu
      obtain ⟨q, hq, hu⟩ := flat_mem hu
      obtain ⟨u', x', e, ⟨_, h3, _⟩, h4⟩ := (hcc q hq).2.1
      obtain ⟨s1, t1, rfl⟩ := own_slicen h3
      obtain ⟨s2, t2, rfl⟩ := own_slicen h4
      have ec := congrArg (fun v : Value => match v with | .agg cs => cs.toList | _ => []) e
      have ec' : cc q = [.int .i64 (ms.getD q noMsg).kind, .int .i64 (ms.getD q noMsg).src, .int .i64 (ms.getD q noMsg).dst, .int .i64 (ms.getD q noMsg).gang, .slice s1 (ms.getD q noMsg).pods.length t1, .slice s2 (ms.getD q noMsg).peers.length t2, .bool (ms.getD q noMsg).yes] := by simpa using ec
      rw [ec'] at hu
      simp only [List.mem_cons, List.not_mem_nil, or_false] at hu
      rcases hu with rfl | rfl | rfl | rfl | rfl | rfl | rfl <;> rfl
    have hone0 : ∀ u ∈ flat j cc, u.oneCell' = true := fun u hu => hone u (by
      have : flat j cc = (flat ms.length cc).take (j * 7) := (flat_take _ _ (by omega) _ hc7).symm
      rw [this] at hu
      exact List.mem_of_mem_take hu)
    have hl0 : (flat j cc).length = j * 7 := flat_len fun i hi => hc7 i (by omega)
    have hl1 : ((flat ms.length cc).drop ((j + 1) * 7)).length = (ms.length - (j + 1)) * 7 := by
      rw [List.length_drop, flat_len (n := ms.length) (s := 7) (c := cc) hc7, Nat.sub_mul]
    have HN0 := Lib.hid hnew0
    have HN1 := Lib.hid hnews
    have HA := Lib.hid hA
    have HO0 := Lib.hid hone0
    have HO1 : Hid (∀ u ∈ (flat ms.length cc).drop ((j + 1) * 7), u.oneCell' = true) := Lib.hid fun u hu => hone u (List.mem_of_mem_drop hu)
    have HL0 := Lib.hid hl0
    have HL1 := Lib.hid hl1
    have HBLK := Lib.hid hblk
    have HCC := Lib.hid hcc
    have HC7 := Lib.hid hc7
    have hbn : b < w4.heap.size := (Array.getElem?_eq_some_iff.1 hblk).1
    have hcb : ∀ w6, Keep w4.heap.size w4.drew w6 → w6.cell? ⟨b, 0, none⟩ = some (.slice (some ⟨g, 0, none⟩) ms.length cap) := fun w6 h => cell_of_block ((h.block b hbn hbn).trans hblk) 0 _ rfl
    have HCB := Lib.hid hcb
    have HZ4 := Lib.hid z4
    have HB4' := Lib.hid hb4
    clear hnews hnew0 hA hone hone0 hl0 hl1 hblk hcc hc7 hcb z4 hb4 hown
    refine' Pas.wp_region_pass (fun w w' => Below w.heap.size w w') (Keep w4.heap.size) 19 (by kernel_rfl) (by kernel_rfl) (by kernel_rfl) (by kernel_rfl) (by kernel_rfl) (by kernel_rfl)
      (fun w => Keep.refl _ _) (fun h k => Keep.trans h k) [] (by simp) (by simp) (fun vals => ?_)
    rotate_left
    simp only [List.take_succ_cons, List.take_zero, List.drop_succ_cons, List.drop_zero]
    (apply Pas.pas_x (fun _ _ h => Keep.of_below h) rfl; (focus (intro w6 hR hD hP K hK; replace hK := Lib.hid hK; skip; clear hR hD hP; go_simp; exact hK.out _ (Below.refl _ _))); simp only [Act.put, List.setIfInBounds_toArray, List.set_cons_zero, List.set_cons_succ, Nat.reduceAdd, List.cons_append, List.nil_append])
    (apply Pas.pas_r (fun v w' => ∃ g0, v = .slice (some ⟨g0, 0, none⟩) 0 0 ∧ w4.heap.size ≤ g0 ∧ w'.heap[g0]? = some (.cells #[] 26 (0, 0))) (fun _ _ h => Keep.of_below h) rfl (fun v w1 w2 h k => by obtain ⟨g0, h1, h2, h3⟩ := h; exact ⟨g0, h1, h2, block_below h3 k⟩); (focus (intro w6 hR hD hP K hK; replace hK := Lib.hid hK; have hsz := Lib.hid hR.size; clear hR hD hP; go_simp; exact hK.out _ _ (below_alloc' (Below.refl _ _) _) ⟨_, rfl, hsz.out, alloc_at _ _⟩)); simp only [Act.put, List.setIfInBounds_toArray, List.set_cons_zero, List.set_cons_succ, Nat.reduceAdd, List.cons_append, List.nil_append])
    (apply Pas.pas_x (fun _ _ h => Keep.of_below h) rfl; (focus (intro w6 hR hD hP K hK; replace hK := Lib.hid hK; skip; clear hR hD hP; go_simp; exact hK.out _ (Below.refl _ _))); simp only [Act.put, List.setIfInBounds_toArray, List.set_cons_zero, List.set_cons_succ, Nat.reduceAdd, List.cons_append, List.nil_append])
    (apply Pas.pas_x (fun _ _ h => Keep.of_below h) rfl; (focus (intro w6 hR hD hP K hK; replace hK := Lib.hid hK; skip; clear hR hD hP; go_simp; exact hK.out _ (Below.refl _ _))); simp only [Act.put, List.setIfInBounds_toArray, List.set_cons_zero, List.set_cons_succ, Nat.reduceAdd, List.cons_append, List.nil_append])
    (apply Pas.pas_x (fun _ _ h => Keep.of_below h) rfl; (focus (intro w6 hR hD hP K hK; replace hK := Lib.hid hK; skip; clear hR hD hP; go_simp; exact hK.out _ (Below.refl _ _))); simp only [Act.put, List.setIfInBounds_toArray, List.set_cons_zero, List.set_cons_succ, Nat.reduceAdd, List.cons_append, List.nil_append])
    (apply Pas.pas_x (fun _ _ h => Keep.of_below h) rfl; (focus (intro w6 hR hD hP K hK; replace hK := Lib.hid hK; have c0 := HCB.out w6 hR; clear hR hD hP; go_simp; exact hK.out _ (Below.refl _ _))); simp only [Act.put, List.setIfInBounds_toArray, List.set_cons_zero, List.set_cons_succ, Nat.reduceAdd, List.cons_append, List.nil_append])
    (apply Pas.pas_x (fun _ _ h => Keep.of_below h) rfl; (focus (intro w6 hR hD hP K hK; replace hK := Lib.hid hK; skip; clear hR hD hP; go_simp; exact hK.out _ (Below.refl _ _))); simp only [Act.put, List.setIfInBounds_toArray, List.set_cons_zero, List.set_cons_succ, Nat.reduceAdd, List.cons_append, List.nil_append])
    (apply Pas.pas_x (fun _ _ h => Keep.of_below h) rfl; (focus (intro w6 hR hD hP K hK; replace hK := Lib.hid hK; skip; clear hR hD hP; go_simp; exact hK.out _ (Below.refl _ _))); simp only [Act.put, List.setIfInBounds_toArray, List.set_cons_zero, List.set_cons_succ, Nat.reduceAdd, List.cons_append, List.nil_append])
    (apply Pas.pas_r (fun v w' => w'.ownsRow w4.heap.size 26 7 v j (flat j cc)) (fun _ _ h => Keep.of_below h) rfl (fun v w1 w2 h k => own_below h k); (focus (intro w6 hR hD hP K hK; replace hK := Lib.hid hK; obtain ⟨g0, e0, h0, hb0⟩ : ∃ g0, vals 1 = .slice (some ⟨g0, 0, none⟩) 0 0 ∧ w4.heap.size ≤ g0 ∧ w6.heap[g0]? = some (.cells #[] 26 (0, 0)) := hD 1 (by kernel_rfl); simp only [e0] at hK ⊢; exact wp_app_new elt_msgs (.tmp 16) (.tmp 22) rfl (g := g0) (m := j) (c := cap) (b := w4.heap.size) (ax := some ⟨g, 0, none⟩) (news := flat j cc) rfl rfl hb0 h0 (.inr ⟨_, rfl, HN0.out _ hR⟩) HL0.out HO0.out (by omega) fun v' w' h1 h2 => hK.out v' w' h2 h1)); simp only [Act.put, List.setIfInBounds_toArray, List.set_cons_zero, List.set_cons_succ, Nat.reduceAdd, List.cons_append, List.nil_append])
    (apply Pas.pas_x (fun _ _ h => Keep.of_below h) rfl; (focus (intro w6 hR hD hP K hK; replace hK := Lib.hid hK; skip; clear hR hD hP; go_simp; exact hK.out _ (Below.refl _ _))); simp only [Act.put, List.setIfInBounds_toArray, List.set_cons_zero, List.set_cons_succ, Nat.reduceAdd, List.cons_append, List.nil_append])
    (apply Pas.pas_x (fun _ _ h => Keep.of_below h) rfl; (focus (intro w6 hR hD hP K hK; replace hK := Lib.hid hK; skip; clear hR hD hP; go_simp; exact hK.out _ (Below.refl _ _))); simp only [Act.put, List.setIfInBounds_toArray, List.set_cons_zero, List.set_cons_succ, Nat.reduceAdd, List.cons_append, List.nil_append])
    (apply Pas.pas_x (fun _ _ h => Keep.of_below h) rfl; (focus (intro w6 hR hD hP K hK; replace hK := Lib.hid hK; skip; clear hR hD hP; go_simp; exact hK.out _ (Below.refl _ _))); simp only [Act.put, List.setIfInBounds_toArray, List.set_cons_zero, List.set_cons_succ, Nat.reduceAdd, List.cons_append, List.nil_append])
    (apply Pas.pas_x (fun _ _ h => Keep.of_below h) rfl; (focus (intro w6 hR hD hP K hK; replace hK := Lib.hid hK; have c0 := HCB.out w6 hR; clear hR hD hP; go_simp; exact hK.out _ (Below.refl _ _))); simp only [Act.put, List.setIfInBounds_toArray, List.set_cons_zero, List.set_cons_succ, Nat.reduceAdd, List.cons_append, List.nil_append])
    (apply Pas.pas_x (fun _ _ h => Keep.of_below h) rfl; (focus (intro w6 hR hD hP K hK; replace hK := Lib.hid hK; skip; clear hR hD hP; go_simp; exact hK.out _ (Below.refl _ _))); simp only [Act.put, List.setIfInBounds_toArray, List.set_cons_zero, List.set_cons_succ, Nat.reduceAdd, List.cons_append, List.nil_append])
    (apply Pas.pas_x (fun _ _ h => Keep.of_below h) rfl; (focus (intro w6 hR hD hP K hK; replace hK := Lib.hid hK; skip; clear hR hD hP; go_simp; exact hK.out _ (Below.refl _ _))); simp only [Act.put, List.setIfInBounds_toArray, List.set_cons_zero, List.set_cons_succ, Nat.reduceAdd, List.cons_append, List.nil_append])
    (apply Pas.pas_x (fun _ _ h => Keep.of_below h) rfl; (focus (intro w6 hR hD hP K hK; replace hK := Lib.hid hK; skip; clear hR hD hP; go_simp; exact hK.out _ (Below.refl _ _))); simp only [Act.put, List.setIfInBounds_toArray, List.set_cons_zero, List.set_cons_succ, Nat.reduceAdd, List.cons_append, List.nil_append])
    (apply Pas.pas_s (Spill w4.heap.size (j * 7) 26) (fun v w' => w'.ownsRow w4.heap.size 26 7 v (j + (ms.length - (j + 1))) (flat j cc ++ (flat ms.length cc).drop ((j + 1) * 7))) (fun _ _ h => h.keep) rfl (fun v w1 w2 h k => own_below h k); (focus (intro w6 hR hD hP K hK; replace hK := Lib.hid hK; have h8 : w6.ownsRow w4.heap.size 26 7 (vals 8) j (flat j cc) := hD 8 (by kernel_rfl); simp only [HA.out] at hK ⊢; exact wp_app_spill elt_msgs (.tmp 23) (.tmp 30) rfl (ad := A) (c := cap - (j + 1)) rfl rfl h8 HL1.out (HN1.out _ hR) HO1.out (by omega) hR.size fun v' w' h1 h2 => hK.out v' w' h2 h1)); simp only [Act.put, List.setIfInBounds_toArray, List.set_cons_zero, List.set_cons_succ, Nat.reduceAdd, List.cons_append, List.nil_append])
    (apply Pas.pas_x (fun _ _ h => Keep.of_below h) rfl; (focus (intro w6 hR hD hP K hK; replace hK := Lib.hid hK; skip; clear hR hD hP; go_simp; exact hK.out _ (Below.refl _ _))); simp only [Act.put, List.setIfInBounds_toArray, List.set_cons_zero, List.set_cons_succ, Nat.reduceAdd, List.cons_append, List.nil_append])
    (apply Pas.pas_x (fun _ _ h => Keep.of_below h) rfl; (focus (intro w6 hR hD hP K hK; replace hK := Lib.hid hK; skip; clear hR hD hP; go_simp; exact hK.out _ (Below.refl _ _))); simp only [Act.put, List.setIfInBounds_toArray, List.set_cons_zero, List.set_cons_succ, Nat.reduceAdd, List.cons_append, List.nil_append])
    refine Pas.pas_ends ?_ ?_ fun w6 hR hp => ?_
    · simp only [Pas.AllK, List.append_assoc, List.nil_append, List.cons_append, true_and, and_true, true_or, or_true, Nat.reduceAdd]
      refine ⟨.inr fun v w1 w2 h k q => ?_, .inr fun v w1 w2 h k q => k.own q (fun _ => Nat.le_refl _)⟩
      obtain ⟨g0, q1, q2, q3⟩ := q
      refine ⟨g0, q1, q2, ?_⟩
      rcases k.block g0 (Array.getElem?_eq_some_iff.1 q3).1 with h1 | ⟨_, d1, d2, h1, h2, h3, _⟩
      · exact h1.trans q3
      · rw [q3] at h1
        injection h1 with h1
        injection h1 with h1 _
        subst h1
        rw [h2, show d2 = #[] from Array.size_eq_zero_iff.1 h3]
    · simp [Pas.AllK]
    have h16 : w6.ownsRow w4.heap.size 26 7 (vals 16) (j + (ms.length - (j + 1))) (flat j cc ++ (flat ms.length cc).drop ((j + 1) * 7)) := hp 16 (by simp)
    clear hp
    obtain ⟨sa, sc, ev⟩ := own_slicen h16
    rw [ev] at h16
    simp only [ev, HA.out]
    have hk6 : Below w4.heap.size w4 w6 := below_call (Below.refl _ w4).drew (hR.below (Nat.le_refl _))
    have hz6 := block_below HZ4.out hk6
    have hy6 := block_below (block_below Y0.out HB4'.out) hk6
    have hbl6 := block_below HBLK.out hk6
    have cb := cell_of_block hbl6 0 _ rfl
    have frb := free_of_block hbl6 0
    have H16 := Lib.hid h16
    have HK6 := Lib.hid hk6
    have HZ6 := Lib.hid hz6
    have HY6 := Lib.hid hy6
    have HBL6 := Lib.hid hbl6
    clear ev h16 hR hk6 hz6 hy6 hbl6
    go_upto_region 4 with fail
    have hbut := But.set w6 b 0 (.slice sa (j + (ms.length - (j + 1))) sc)
    have hne1 : w.heap.size ≠ b := fun e => by
      have := HBL6.out
      rw [← e, HY6.out] at this
      injection this with this
      injection this with _ this
      exact absurd this (by decide)
    have hne2 : w3.heap.size ≠ b := fun e => by
      have := HBL6.out
      rw [← e, HZ6.out] at this
      injection this with this
      injection this with _ this
      exact absurd this (by decide)
    have z7 : (w6.setCell ⟨b, 0, none⟩ (.slice sa (j + (ms.length - (j + 1))) sc)).heap[w3.heap.size]? = some (.cells #[.int .i64 mj.kind, .int .i64 mj.src, .int .i64 mj.dst, .int .i64 mj.gang, .slice a1 mj.pods.length c1, .slice a2 mj.peers.length c2, .bool mj.yes] 26 (0, 0)) := by rw [Below.heap_setCell _ _ _ _ (fun e => hne2 e)]; exact HZ6.out
    have y7 : (w6.setCell ⟨b, 0, none⟩ (.slice sa (j + (ms.length - (j + 1))) sc)).heap[w.heap.size]? = some (.cells #[.int .i64 0, .int .i64 0, .int .i64 0, .int .i64 0, .slice none 0 0, .slice none 0 0, .bool false] 26 (0, 0)) := by rw [Below.heap_setCell _ _ _ _ (fun e => hne1 e)]; exact HY6.out
    have b7 : (w6.setCell ⟨b, 0, none⟩ (.slice sa (j + (ms.length - (j + 1))) sc)).heap[b]? = some (.cells #[.slice sa (j + (ms.length - (j + 1))) sc] 38 (0, 0)) := heap_setCell_same _ _ _ _ _ _ HBL6.out
    have hst7 := hbut.still HBL6.out (T := fun e => e ≠ 38) (by simp)
    generalize World.setCell _ _ _ = w7 at hbut z7 y7 b7 hst7 ⊢
    have m0 := cell_of_block z7 0 _ rfl
    have m1 := cell_of_block z7 1 _ rfl
    have m2 := cell_of_block z7 2 _ rfl
    have m3 := cell_of_block z7 3 _ rfl
    have m4 := cell_of_block z7 4 _ rfl
    have m5 := cell_of_block z7 5 _ rfl
    have m6 := cell_of_block z7 6 _ rfl
    have n0 := cell_of_block y7 0 _ rfl
    have n1 := cell_of_block y7 1 _ rfl
    have n2 := cell_of_block y7 2 _ rfl
    have n3 := cell_of_block y7 3 _ rfl
    have n4 := cell_of_block y7 4 _ rfl
    have n5 := cell_of_block y7 5 _ rfl
    have n6 := cell_of_block y7 6 _ rfl
    have fr := free_of_block y7
    have YF := Lib.hid y7
    have HBUT := Lib.hid hbut
    have B7 := Lib.hid b7
    have HST7 := Lib.hid hst7
    clear z7 y7 b7 hbut hst7 cb frb
    go_wp2
    obtain ⟨zf, hbf⟩ := set7 w7 w.heap.size _ _ (.int .i64 mj.kind) (.int .i64 mj.src) (.int .i64 mj.dst) (.int .i64 mj.gang) (.slice a1 mj.pods.length c1) (.slice a2 mj.peers.length c2) (.bool mj.yes) YF.out rfl
    generalize hwf : World.setCell _ _ _ = wf at zf hbf ⊢
    clear hwf n0 n1 n2 n3 n4 n5 n6 m0 m1 m2 m3 m4 m5 m6 fr
    have f0 := cell_of_block zf 0 _ rfl
    have f1 := cell_of_block zf 1 _ rfl
    have f2 := cell_of_block zf 2 _ rfl
    have f3 := cell_of_block zf 3 _ rfl
    have f4 := cell_of_block zf 4 _ rfl
    have f5 := cell_of_block zf 5 _ rfl
    have f6 := cell_of_block zf 6 _ rfl
    have hstM := hbf.still YF.out (T := fun e => e ≠ 26) (by simp)
    have hB7 : Below B w w7 := Below.but ((HB4.out.trans (HK6.out.mono HB4.out.size)).mono hB) HBUT.out hbB (Nat.le_trans hB (Nat.le_trans HB4.out.size HK6.out.size))
    have hs7 : B ≤ w7.heap.size := Nat.le_trans hB (Nat.le_trans HB4.out.size (Nat.le_trans HK6.out.size HBUT.out.size))
    have hBf : Below B w wf := Below.but hB7 hbf hB hs7
    have hpar : Still Parts w4 wf := ((Still.of_below HK6.out).trans (still_sub HST7.out fun e he => by rcases he with rfl | rfl | rfl <;> decide)).trans (still_sub hstM fun e he => by rcases he with rfl | rfl | rfl <;> decide)
    refine bodyPost_ret (v := .tuple #[.agg #[.int .i64 mj.kind, .int .i64 mj.src, .int .i64 mj.dst, .int .i64 mj.gang, .slice a1 mj.pods.length c1, .slice a2 mj.peers.length c2, .bool mj.yes], .bool true]) (by simp [results, Tryd.results18, go_sem, f0, f1, f2, f3, f4, f5, f6]) rfl ⟨_, rfl, ?_, ?_, hBf, ?_⟩
    · exact ((HV.out.base HS2.out).still (Still.of_below HB4'.out)).still hpar
    · rw [HE.out]
      have hel : (ms.eraseIdx j).length = ms.length - 1 := List.length_eraseIdx_of_lt hj
      refine ⟨b, _, rfl, hbB, hstM _ _ _ (by decide) B7.out, fun k => if k < j then cc k else cc (k + 1), ?_, fun k hk => ?_⟩
      · rw [hel, flat_erase cc hj HC7.out, show ms.length - 1 = j + (ms.length - (j + 1)) by omega]
        have h7 := own_still H16.out HST7.out (by decide)
        refine own_same (own_base h7 (Nat.le_trans hB HB4.out.size)) fun g cs hg hv => hbf.block g (Array.getElem?_eq_some_iff.1 hg).1 fun e => ?_
        have h1 := (h7.lt g hv).1
        have h2 := (Array.getElem?_eq_some_iff.1 (block_below Y0.out HB4'.out)).1
        omega
      · rw [hel] at hk
        rw [eraseIdx_getD]
        show (if _ then cc _ else cc _).length = 7 ∧ MsgAt 0 _ (.agg (if _ then cc _ else cc _).toArray) _ ∧ _
        split
        · exact ⟨(HCC.out k (by omega)).1, (HCC.out k (by omega)).2.1.still hpar, (HCC.out k (by omega)).2.2⟩
        · exact ⟨(HCC.out (k + 1) (by omega)).1, (HCC.out (k + 1) (by omega)).2.1.still hpar, (HCC.out (k + 1) (by omega)).2.2⟩
    · have h7 : Still (fun e => e ≠ 38) w w7 := ((Still.of_below HB4.out).trans (Still.of_below HK6.out)).trans HST7.out
      exact fun k cs e he hk => (hbf.block k (Nat.lt_of_lt_of_le (Array.getElem?_eq_some_iff.1 hk).1 (Nat.le_trans HB4.out.size (Nat.le_trans HK6.out.size HBUT.out.size))) (Nat.ne_of_lt (Array.getElem?_eq_some_iff.1 hk).1)).trans (h7 k cs e he hk)
  · have HE : Hid (tk = ms) := Lib.hid (by rw [HTK.out, takenM, if_neg hr])
    rw [decide_eq_false hr]
    have HD : Hid (decide (0 ≤ i ∧ i < (ms.length : Int)) = false) := decide_eq_false hr
    clear hr HTK
    go_enter Tryd.func18, Tryd.ntmps18
    go_wp2_with fail
    generalize hw2 : World.alloc w _ = w2
    have hb2 : Below w.heap.size w w2 := by rw [← hw2]; exact below_alloc' (Below.refl _ _) _
    have z0 : w2.heap[w.heap.size]? = some (.cells #[.int .i64 0, .int .i64 0, .int .i64 0, .int .i64 0, .slice none 0 0, .slice none 0 0, .bool false] 26 (0, 0)) := by rw [← hw2]; exact alloc_at _ _
    clear hw2
    refine (refAt_any B w2 x ms (HREF.out.below hb2) i).mono ?_
    rw [HD.out, ← HMJ.out]
    rintro e w3 ⟨v', rfl, hv', hb3⟩
    have HV := Lib.hid hv'
    obtain ⟨u', x', rfl, ⟨cu, hru, _⟩, hix⟩ := hv'
    obtain ⟨a1, c1, rfl⟩ := own_slicen hru
    obtain ⟨a2, c2, rfl⟩ := own_slicen hix
    have HB3 := Lib.hid (below_call hb2 hb3)
    have HS2 := Lib.hid hb2.size
    have hy3 := block_below z0 hb3
    have n0 := cell_of_block hy3 0 _ rfl
    have n1 := cell_of_block hy3 1 _ rfl
    have n2 := cell_of_block hy3 2 _ rfl
    have n3 := cell_of_block hy3 3 _ rfl
    have n4 := cell_of_block hy3 4 _ rfl
    have n5 := cell_of_block hy3 5 _ rfl
    have n6 := cell_of_block hy3 6 _ rfl
    have fr := free_of_block hy3
    have HY3 := Lib.hid hy3
    have hne : w.heap.size < w3.heap.size := Nat.lt_of_lt_of_le (by have := (Array.getElem?_eq_some_iff.1 z0).1; exact this) hb3.size
    clear z0 hb2 hb3 hru hix hy3
    go_wp2
    obtain ⟨zf, hbf⟩ := set7 w3 w.heap.size _ _ (.int .i64 mj.kind) (.int .i64 mj.src) (.int .i64 mj.dst) (.int .i64 mj.gang) (.slice a1 mj.pods.length c1) (.slice a2 mj.peers.length c2) (.bool mj.yes) HY3.out rfl
    generalize hwf : World.setCell _ _ _ = wf at zf hbf ⊢
    clear hwf n0 n1 n2 n3 n4 n5 n6 fr
    generalize hw4 : World.alloc wf _ = w4
    have hb4 : Below wf.heap.size wf w4 := by rw [← hw4]; exact below_alloc' (Below.refl _ _) _
    clear hw4
    have z4 := block_below zf hb4
    have f0 := cell_of_block z4 0 _ rfl
    have f1 := cell_of_block z4 1 _ rfl
    have f2 := cell_of_block z4 2 _ rfl
    have f3 := cell_of_block z4 3 _ rfl
    have f4 := cell_of_block z4 4 _ rfl
    have f5 := cell_of_block z4 5 _ rfl
    have f6 := cell_of_block z4 6 _ rfl
    have hBf := Below.but HB3.out hbf (Nat.le_refl _) HB3.out.size
    have hB4 := below_call hBf hb4
    refine bodyPost_ret (v := .tuple #[.agg #[.int .i64 mj.kind, .int .i64 mj.src, .int .i64 mj.dst, .int .i64 mj.gang, .slice a1 mj.pods.length c1, .slice a2 mj.peers.length c2, .bool mj.yes], .bool false]) (by simp [results, Tryd.results18, go_sem, f0, f1, f2, f3, f4, f5, f6]) rfl ⟨_, rfl, ?_, ?_, ?_, ?_⟩
    · exact ((HV.out.base HS2.out).still (hbf.still HY3.out (by unfold Parts; decide))).still (Still.of_below hb4)
    · rw [HE.out]
      exact HREF.out.below hB4
    · exact hB4.mono hB
    · exact Still.of_below hB4
end Go.Proofs.YtpkkjonajimefaaDoor
