/- PostText: the law's walk. -/
import Derived.Test.YtpkkjonajimefaaDoorN
import Derived.Test.YtpkkjonajimefaaDoorMk
set_option linter.unusedVariables false
set_option linter.unusedSimpArgs false
namespace Go.Proofs.YtpkkjonajimefaaDoor
open Go.RowKit

theorem int63_mod (a m : Int) (h0 : 0 < m) (h1 : m ≤ 1000000) : Int63 (a % m) := by
  have q1 := Int.emod_lt_of_pos a h0
  have q2 := Int.emod_nonneg a (show m ≠ 0 by omega)
  exact ⟨by omega, by omega⟩

set_option maxHeartbeats 8000000 in
set_option maxRecDepth 100000 in
theorem postText_any (n kind frm tto gang : Int) (yes : Bool) (hkind : Int64 kind) (w : World) (ht : Tabs w) : Calls Tryd.prog 3 #[.int .i64 n, .int .i64 kind, .int .i64 frm, .int .i64 tto, .int .i64 gang, .bool yes] w fun e w' => e = .returned (.bool true) ∧ Below w.heap.size w w' := by
  have HT := Lib.hid ht
  have HK := Lib.hid hkind
  clear ht hkind
  have hs : kind < 0 ∨ (0 ≤ kind ∧ kind ≤ 10) ∨ 10 < kind := by omega
  obtain ⟨q1, q2⟩ : 0 ≤ frm % 9 ∧ frm % 9 < 9 := ⟨by omega, by omega⟩
  have kneg : IntKind.i64.wrap (0 - frm % 9) = 0 - frm % 9 := kwid (by omega) (by omega)
  have HM : Hid (∃ kd sr ds gg : Int, ∃ y : Bool, ∃ pods peers, makeM n [] = ⟨kd, sr, ds, gg, pods, peers, y⟩ ∧ Int64 kd ∧ Int63 sr ∧ Int63 ds ∧ Int63 gg) :=
    Lib.hid ⟨_, _, _, _, _, _, _, rfl, ⟨by omega, by omega⟩, int63_mod _ _ (by omega) (by omega), int63_mod _ _ (by omega) (by omega), by
      have := int63_mod (qd (qd n 11) 25) 9 (by omega) (by omega)
      have h1 := Int.emod_lt_of_pos (qd (qd n 11) 25) (show (0 : Int) < 9 by omega)
      have h2 := Int.emod_nonneg (qd (qd n 11) 25) (show (9 : Int) ≠ 0 by omega)
      exact ⟨by omega, by omega⟩⟩
  obtain ⟨kd, sr, ds, gg, y, pods, peers, hm, i1, i2, i3, i4⟩ := HM.out
  have HMM := Lib.hid hm
  have I1 := Lib.hid i1
  have I2 := Lib.hid i2
  have I3 := Lib.hid i3
  have I4 := Lib.hid i4
  clear HM hm i1 i2 i3 i4
  rcases hs with h1 | ⟨h1, h2⟩ | h1
  · have d1 : decide (0 ≤ kind) = false := decide_eq_false (by omega)
    go_enter Tryd.func3, Tryd.ntmps3
    go_wp2_with (first | (go_at_call 10; refine (known_any _ HT.out).mono ?_; rintro r w1 ⟨rfl, hb⟩; have HB1 := Lib.hid hb; clear hb) | (go_at_call 12; refine (within12_any _ _ (by omega) (by omega) _).mono ?_; rintro r w7 ⟨rfl, rfl⟩) | (go_at_call 11; refine (make_any n _ [] _ (Nums.nil _)).mono ?_; rw [HMM.out]; rintro r w2 ⟨v, rfl, hv, hb⟩; have HV := Lib.hid hv; have HB2 := Lib.hid (below_call HB1.out hb); obtain ⟨u, x, rfl, ⟨_, hq1, _⟩, hq2⟩ := hv; obtain ⟨a1, l1, c1, rfl⟩ := own_slice hq1; obtain ⟨a2, l2, c2, rfl⟩ := own_slice hq2; clear hb hq1 hq2 HV))
    generalize hw3 : World.alloc (World.alloc w2 _) _ = w3
    have hb3 : Below w2.heap.size w2 w3 := by rw [← hw3]; exact below_alloc' (below_alloc' (Below.refl _ _) _) _
    have z1 : w3.heap[w2.heap.size]? = some (.cells #[.int .i64 kd, .int .i64 sr, .int .i64 ds, .int .i64 gg, .slice a1 l1 c1, .slice a2 l2 c2, .bool y] 26 (0, 0)) := by rw [← hw3, Below.heap_alloc _ _ _ (by simp)]; exact alloc_at _ _
    have z2 : w3.heap[w2.heap.size + 1]? = some (.cells #[.int .i64 kind, .int .i64 (-(frm % 9)), .int .i64 (tto % 9), .int .i64 (gang % 1000000), .slice none 0 0, .slice none 0 0, .bool yes] 26 (0, 0)) := by rw [← hw3]; exact alloc_second _ _ _
    clear hw3
    obtain ⟨ff, hff, iff'⟩ : ∃ ff, -(frm % 9) = ff ∧ Int63 ff := ⟨_, rfl, ⟨by omega, by omega⟩⟩
    rw [hff] at z2
    have IF := Lib.hid iff'
    clear hff iff'
    obtain ⟨ts1, hts1⟩ : ∃ ts, str (textOf kd sr ds gg y) = ts := ⟨_, rfl⟩
    obtain ⟨ts2, hts2⟩ : ∃ ts, str (textOf kind ff (tto % 9) (gang % 1000000) yes) = ts := ⟨_, rfl⟩
    have HS1 := Lib.hid hts1
    have HS2 := Lib.hid hts2
    have Z1 := Lib.hid z1
    have Z2 := Lib.hid z2
    have HB3 := Lib.hid (below_call HB2.out hb3)
    clear hts1 hts2 z1 z2 hb3 kneg
    refine' Par.wp_region_pars (fun w w' => Below w.heap.size w w') 12 (by kernel_rfl) (by kernel_rfl) (by kernel_rfl) (by kernel_rfl) (by kernel_rfl) (by kernel_rfl)
      (fun w => Below.refl _ w) (fun h k => below_call h k) (fun vals => ?_)
    rotate_left
    simp only [List.take_succ_cons, List.take_zero, List.drop_succ_cons, List.drop_zero]
    (apply Par.par_x rfl; (focus (intro w6 hR hD K hK; replace hK := Lib.hid hK; have z := block_below (w := w3.drew) Z1.out hR; have e0 := cell_of_block z 0 _ rfl; have e1 := cell_of_block z 1 _ rfl; have e2 := cell_of_block z 2 _ rfl; have e3 := cell_of_block z 3 _ rfl; have e4 := cell_of_block z 4 _ rfl; have e5 := cell_of_block z 5 _ rfl; have e6 := cell_of_block z 6 _ rfl; clear z; clear hR hD; go_simp; exact hK.out _ (Below.refl _ _))); simp only [Act.put, List.setIfInBounds_toArray, List.set_cons_zero, List.set_cons_succ, Nat.reduceAdd, List.cons_append, List.nil_append])
    (apply Par.par_x rfl; (focus (intro w6 hR hD K hK; replace hK := Lib.hid hK; have htb := HT.out.below (below_call HB3.out.drew hR); clear hR hD; go_simp; refine (text_any w6 htb kd sr ds gg _ _ y I1.out I2.out.wide I3.out.wide I4.out.wide).mono ?_; rw [HS1.out]; rintro r w7 ⟨rfl, hb⟩; exact hK.out _ hb)); simp only [Act.put, List.setIfInBounds_toArray, List.set_cons_zero, List.set_cons_succ, Nat.reduceAdd, List.cons_append, List.nil_append])
    (apply Par.par_x rfl; (focus (intro w6 hR hD K hK; replace hK := Lib.hid hK; have z := block_below (w := w3.drew) Z1.out hR; have e0 := cell_of_block z 0 _ rfl; have e1 := cell_of_block z 1 _ rfl; have e2 := cell_of_block z 2 _ rfl; have e3 := cell_of_block z 3 _ rfl; have e4 := cell_of_block z 4 _ rfl; have e5 := cell_of_block z 5 _ rfl; have e6 := cell_of_block z 6 _ rfl; clear z; clear hR hD; go_simp; exact hK.out _ (Below.refl _ _))); simp only [Act.put, List.setIfInBounds_toArray, List.set_cons_zero, List.set_cons_succ, Nat.reduceAdd, List.cons_append, List.nil_append])
    (apply Par.par_x rfl; (focus (intro w6 hR hD K hK; replace hK := Lib.hid hK; clear hR hD; go_simp; refine (rtext_any w6 kd sr ds gg _ _ y I1.out I2.out I3.out I4.out).mono ?_; rw [HS1.out]; rintro r w7 ⟨rfl, hb⟩; exact hK.out _ hb)); simp only [Act.put, List.setIfInBounds_toArray, List.set_cons_zero, List.set_cons_succ, Nat.reduceAdd, List.cons_append, List.nil_append])
    (apply Par.par_x rfl; (focus (intro w6 hR hD K hK; replace hK := Lib.hid hK; skip; clear hR hD; go_simp; exact hK.out _ (Below.refl _ _))); simp only [Act.put, List.setIfInBounds_toArray, List.set_cons_zero, List.set_cons_succ, Nat.reduceAdd, List.cons_append, List.nil_append])
    (apply Par.par_x rfl; (focus (intro w6 hR hD K hK; replace hK := Lib.hid hK; skip; clear hR hD; go_simp; exact hK.out _ (Below.refl _ _))); simp only [Act.put, List.setIfInBounds_toArray, List.set_cons_zero, List.set_cons_succ, Nat.reduceAdd, List.cons_append, List.nil_append])
    (apply Par.par_g; (focus (intro w6 hR hD K hK; replace hK := Lib.hid hK; have z := block_below (w := w3.drew) Z2.out hR; have e0 := cell_of_block z 0 _ rfl; have e1 := cell_of_block z 1 _ rfl; have e2 := cell_of_block z 2 _ rfl; have e3 := cell_of_block z 3 _ rfl; have e4 := cell_of_block z 4 _ rfl; have e5 := cell_of_block z 5 _ rfl; have e6 := cell_of_block z 6 _ rfl; clear z; clear hR hD; go_simp; exact hK.out _ (Below.refl _ _))); simp only [Act.put, List.setIfInBounds_toArray, List.set_cons_zero, List.set_cons_succ, Nat.reduceAdd, List.cons_append, List.nil_append])
    (apply Par.par_g; (focus (intro w6 hR hD K hK; replace hK := Lib.hid hK; have htb := HT.out.below (below_call HB3.out.drew hR); clear hR hD; go_simp; refine (text_any w6 htb kind ff (tto % 9) (gang % 1000000) _ _ yes HK.out IF.out.wide (int63_mod _ _ (by omega) (by omega)).wide (int63_mod _ _ (by omega) (by omega)).wide).mono ?_; rw [HS2.out]; rintro r w7 ⟨rfl, hb⟩; exact hK.out _ hb)); simp only [Act.put, List.setIfInBounds_toArray, List.set_cons_zero, List.set_cons_succ, Nat.reduceAdd, List.cons_append, List.nil_append])
    (apply Par.par_g; (focus (intro w6 hR hD K hK; replace hK := Lib.hid hK; have z := block_below (w := w3.drew) Z2.out hR; have e0 := cell_of_block z 0 _ rfl; have e1 := cell_of_block z 1 _ rfl; have e2 := cell_of_block z 2 _ rfl; have e3 := cell_of_block z 3 _ rfl; have e4 := cell_of_block z 4 _ rfl; have e5 := cell_of_block z 5 _ rfl; have e6 := cell_of_block z 6 _ rfl; clear z; clear hR hD; go_simp; exact hK.out _ (Below.refl _ _))); simp only [Act.put, List.setIfInBounds_toArray, List.set_cons_zero, List.set_cons_succ, Nat.reduceAdd, List.cons_append, List.nil_append])
    (apply Par.par_g; (focus (intro w6 hR hD K hK; replace hK := Lib.hid hK; clear hR hD; go_simp; refine (rtext_any w6 kind ff (tto % 9) (gang % 1000000) _ _ yes HK.out IF.out (int63_mod _ _ (by omega) (by omega)) (int63_mod _ _ (by omega) (by omega))).mono ?_; rw [HS2.out]; rintro r w7 ⟨rfl, hb⟩; exact hK.out _ hb)); simp only [Act.put, List.setIfInBounds_toArray, List.set_cons_zero, List.set_cons_succ, Nat.reduceAdd, List.cons_append, List.nil_append])
    (apply Par.par_g; (focus (intro w6 hR hD K hK; replace hK := Lib.hid hK; skip; clear hR hD; go_simp; exact hK.out _ (Below.refl _ _))); simp only [Act.put, List.setIfInBounds_toArray, List.set_cons_zero, List.set_cons_succ, Nat.reduceAdd, List.cons_append, List.nil_append])
    (apply Par.par_x rfl; (focus (intro w6 hR hD K hK; replace hK := Lib.hid hK; skip; clear hR hD; go_simp; exact hK.out _ (Below.refl _ _))); simp only [Act.put, List.setIfInBounds_toArray, List.set_cons_zero, List.set_cons_succ, Nat.reduceAdd, List.cons_append, List.nil_append])
    refine Par.par_end fun w6 hR hp => ?_
    clear hp
    have HB6 := Lib.hid (below_call HB3.out.drew hR)
    clear hR
    go_wp2
    go_ret
    exact ⟨rfl, HB6.out⟩
  · have d1 : decide (0 ≤ kind) = true := decide_eq_true (by omega)
    have d2 : decide (kind ≤ 10) = true := decide_eq_true (by omega)
    go_enter Tryd.func3, Tryd.ntmps3
    go_wp2_with (first | (go_at_call 10; refine (known_any _ HT.out).mono ?_; rintro r w1 ⟨rfl, hb⟩; have HB1 := Lib.hid hb; clear hb) | (go_at_call 12; refine (within12_any _ _ (by omega) (by omega) _).mono ?_; rintro r w7 ⟨rfl, rfl⟩) | (go_at_call 11; refine (make_any n _ [] _ (Nums.nil _)).mono ?_; rw [HMM.out]; rintro r w2 ⟨v, rfl, hv, hb⟩; have HV := Lib.hid hv; have HB2 := Lib.hid (below_call HB1.out hb); obtain ⟨u, x, rfl, ⟨_, hq1, _⟩, hq2⟩ := hv; obtain ⟨a1, l1, c1, rfl⟩ := own_slice hq1; obtain ⟨a2, l2, c2, rfl⟩ := own_slice hq2; clear hb hq1 hq2 HV))
    generalize hw3 : World.alloc (World.alloc w2 _) _ = w3
    have hb3 : Below w2.heap.size w2 w3 := by rw [← hw3]; exact below_alloc' (below_alloc' (Below.refl _ _) _) _
    have z1 : w3.heap[w2.heap.size]? = some (.cells #[.int .i64 kd, .int .i64 sr, .int .i64 ds, .int .i64 gg, .slice a1 l1 c1, .slice a2 l2 c2, .bool y] 26 (0, 0)) := by rw [← hw3, Below.heap_alloc _ _ _ (by simp)]; exact alloc_at _ _
    have z2 : w3.heap[w2.heap.size + 1]? = some (.cells #[.int .i64 kind, .int .i64 (-(frm % 9)), .int .i64 (tto % 9), .int .i64 (gang % 1000000), .slice none 0 0, .slice none 0 0, .bool yes] 26 (0, 0)) := by rw [← hw3]; exact alloc_second _ _ _
    clear hw3
    obtain ⟨ff, hff, iff'⟩ : ∃ ff, -(frm % 9) = ff ∧ Int63 ff := ⟨_, rfl, ⟨by omega, by omega⟩⟩
    rw [hff] at z2
    have IF := Lib.hid iff'
    clear hff iff'
    obtain ⟨ts1, hts1⟩ : ∃ ts, str (textOf kd sr ds gg y) = ts := ⟨_, rfl⟩
    obtain ⟨ts2, hts2⟩ : ∃ ts, str (textOf kind ff (tto % 9) (gang % 1000000) yes) = ts := ⟨_, rfl⟩
    have HS1 := Lib.hid hts1
    have HS2 := Lib.hid hts2
    have Z1 := Lib.hid z1
    have Z2 := Lib.hid z2
    have HB3 := Lib.hid (below_call HB2.out hb3)
    clear hts1 hts2 z1 z2 hb3 kneg
    refine' Par.wp_region_pars (fun w w' => Below w.heap.size w w') 12 (by kernel_rfl) (by kernel_rfl) (by kernel_rfl) (by kernel_rfl) (by kernel_rfl) (by kernel_rfl)
      (fun w => Below.refl _ w) (fun h k => below_call h k) (fun vals => ?_)
    rotate_left
    simp only [List.take_succ_cons, List.take_zero, List.drop_succ_cons, List.drop_zero]
    (apply Par.par_x rfl; (focus (intro w6 hR hD K hK; replace hK := Lib.hid hK; have z := block_below (w := w3.drew) Z1.out hR; have e0 := cell_of_block z 0 _ rfl; have e1 := cell_of_block z 1 _ rfl; have e2 := cell_of_block z 2 _ rfl; have e3 := cell_of_block z 3 _ rfl; have e4 := cell_of_block z 4 _ rfl; have e5 := cell_of_block z 5 _ rfl; have e6 := cell_of_block z 6 _ rfl; clear z; clear hR hD; go_simp; exact hK.out _ (Below.refl _ _))); simp only [Act.put, List.setIfInBounds_toArray, List.set_cons_zero, List.set_cons_succ, Nat.reduceAdd, List.cons_append, List.nil_append])
    (apply Par.par_x rfl; (focus (intro w6 hR hD K hK; replace hK := Lib.hid hK; have htb := HT.out.below (below_call HB3.out.drew hR); clear hR hD; go_simp; refine (text_any w6 htb kd sr ds gg _ _ y I1.out I2.out.wide I3.out.wide I4.out.wide).mono ?_; rw [HS1.out]; rintro r w7 ⟨rfl, hb⟩; exact hK.out _ hb)); simp only [Act.put, List.setIfInBounds_toArray, List.set_cons_zero, List.set_cons_succ, Nat.reduceAdd, List.cons_append, List.nil_append])
    (apply Par.par_x rfl; (focus (intro w6 hR hD K hK; replace hK := Lib.hid hK; have z := block_below (w := w3.drew) Z1.out hR; have e0 := cell_of_block z 0 _ rfl; have e1 := cell_of_block z 1 _ rfl; have e2 := cell_of_block z 2 _ rfl; have e3 := cell_of_block z 3 _ rfl; have e4 := cell_of_block z 4 _ rfl; have e5 := cell_of_block z 5 _ rfl; have e6 := cell_of_block z 6 _ rfl; clear z; clear hR hD; go_simp; exact hK.out _ (Below.refl _ _))); simp only [Act.put, List.setIfInBounds_toArray, List.set_cons_zero, List.set_cons_succ, Nat.reduceAdd, List.cons_append, List.nil_append])
    (apply Par.par_x rfl; (focus (intro w6 hR hD K hK; replace hK := Lib.hid hK; clear hR hD; go_simp; refine (rtext_any w6 kd sr ds gg _ _ y I1.out I2.out I3.out I4.out).mono ?_; rw [HS1.out]; rintro r w7 ⟨rfl, hb⟩; exact hK.out _ hb)); simp only [Act.put, List.setIfInBounds_toArray, List.set_cons_zero, List.set_cons_succ, Nat.reduceAdd, List.cons_append, List.nil_append])
    (apply Par.par_x rfl; (focus (intro w6 hR hD K hK; replace hK := Lib.hid hK; skip; clear hR hD; go_simp; exact hK.out _ (Below.refl _ _))); simp only [Act.put, List.setIfInBounds_toArray, List.set_cons_zero, List.set_cons_succ, Nat.reduceAdd, List.cons_append, List.nil_append])
    (apply Par.par_x rfl; (focus (intro w6 hR hD K hK; replace hK := Lib.hid hK; skip; clear hR hD; go_simp; exact hK.out _ (Below.refl _ _))); simp only [Act.put, List.setIfInBounds_toArray, List.set_cons_zero, List.set_cons_succ, Nat.reduceAdd, List.cons_append, List.nil_append])
    (apply Par.par_g; (focus (intro w6 hR hD K hK; replace hK := Lib.hid hK; have z := block_below (w := w3.drew) Z2.out hR; have e0 := cell_of_block z 0 _ rfl; have e1 := cell_of_block z 1 _ rfl; have e2 := cell_of_block z 2 _ rfl; have e3 := cell_of_block z 3 _ rfl; have e4 := cell_of_block z 4 _ rfl; have e5 := cell_of_block z 5 _ rfl; have e6 := cell_of_block z 6 _ rfl; clear z; clear hR hD; go_simp; exact hK.out _ (Below.refl _ _))); simp only [Act.put, List.setIfInBounds_toArray, List.set_cons_zero, List.set_cons_succ, Nat.reduceAdd, List.cons_append, List.nil_append])
    (apply Par.par_g; (focus (intro w6 hR hD K hK; replace hK := Lib.hid hK; have htb := HT.out.below (below_call HB3.out.drew hR); clear hR hD; go_simp; refine (text_any w6 htb kind ff (tto % 9) (gang % 1000000) _ _ yes HK.out IF.out.wide (int63_mod _ _ (by omega) (by omega)).wide (int63_mod _ _ (by omega) (by omega)).wide).mono ?_; rw [HS2.out]; rintro r w7 ⟨rfl, hb⟩; exact hK.out _ hb)); simp only [Act.put, List.setIfInBounds_toArray, List.set_cons_zero, List.set_cons_succ, Nat.reduceAdd, List.cons_append, List.nil_append])
    (apply Par.par_g; (focus (intro w6 hR hD K hK; replace hK := Lib.hid hK; have z := block_below (w := w3.drew) Z2.out hR; have e0 := cell_of_block z 0 _ rfl; have e1 := cell_of_block z 1 _ rfl; have e2 := cell_of_block z 2 _ rfl; have e3 := cell_of_block z 3 _ rfl; have e4 := cell_of_block z 4 _ rfl; have e5 := cell_of_block z 5 _ rfl; have e6 := cell_of_block z 6 _ rfl; clear z; clear hR hD; go_simp; exact hK.out _ (Below.refl _ _))); simp only [Act.put, List.setIfInBounds_toArray, List.set_cons_zero, List.set_cons_succ, Nat.reduceAdd, List.cons_append, List.nil_append])
    (apply Par.par_g; (focus (intro w6 hR hD K hK; replace hK := Lib.hid hK; clear hR hD; go_simp; refine (rtext_any w6 kind ff (tto % 9) (gang % 1000000) _ _ yes HK.out IF.out (int63_mod _ _ (by omega) (by omega)) (int63_mod _ _ (by omega) (by omega))).mono ?_; rw [HS2.out]; rintro r w7 ⟨rfl, hb⟩; exact hK.out _ hb)); simp only [Act.put, List.setIfInBounds_toArray, List.set_cons_zero, List.set_cons_succ, Nat.reduceAdd, List.cons_append, List.nil_append])
    (apply Par.par_g; (focus (intro w6 hR hD K hK; replace hK := Lib.hid hK; skip; clear hR hD; go_simp; exact hK.out _ (Below.refl _ _))); simp only [Act.put, List.setIfInBounds_toArray, List.set_cons_zero, List.set_cons_succ, Nat.reduceAdd, List.cons_append, List.nil_append])
    (apply Par.par_x rfl; (focus (intro w6 hR hD K hK; replace hK := Lib.hid hK; skip; clear hR hD; go_simp; exact hK.out _ (Below.refl _ _))); simp only [Act.put, List.setIfInBounds_toArray, List.set_cons_zero, List.set_cons_succ, Nat.reduceAdd, List.cons_append, List.nil_append])
    refine Par.par_end fun w6 hR hp => ?_
    clear hp
    have HB6 := Lib.hid (below_call HB3.out.drew hR)
    clear hR
    go_wp2
    go_ret
    exact ⟨rfl, HB6.out⟩
  · have d1 : decide (0 ≤ kind) = true := decide_eq_true (by omega)
    have d2 : decide (kind ≤ 10) = false := decide_eq_false (by omega)
    have d3 : decide (kind < 0) = false := decide_eq_false (by omega)
    go_enter Tryd.func3, Tryd.ntmps3
    go_wp2_with (first | (go_at_call 10; refine (known_any _ HT.out).mono ?_; rintro r w1 ⟨rfl, hb⟩; have HB1 := Lib.hid hb; clear hb) | (go_at_call 12; refine (within12_any _ _ (by omega) (by omega) _).mono ?_; rintro r w7 ⟨rfl, rfl⟩) | (go_at_call 11; refine (make_any n _ [] _ (Nums.nil _)).mono ?_; rw [HMM.out]; rintro r w2 ⟨v, rfl, hv, hb⟩; have HV := Lib.hid hv; have HB2 := Lib.hid (below_call HB1.out hb); obtain ⟨u, x, rfl, ⟨_, hq1, _⟩, hq2⟩ := hv; obtain ⟨a1, l1, c1, rfl⟩ := own_slice hq1; obtain ⟨a2, l2, c2, rfl⟩ := own_slice hq2; clear hb hq1 hq2 HV))
    generalize hw3 : World.alloc (World.alloc w2 _) _ = w3
    have hb3 : Below w2.heap.size w2 w3 := by rw [← hw3]; exact below_alloc' (below_alloc' (Below.refl _ _) _) _
    have z1 : w3.heap[w2.heap.size]? = some (.cells #[.int .i64 kd, .int .i64 sr, .int .i64 ds, .int .i64 gg, .slice a1 l1 c1, .slice a2 l2 c2, .bool y] 26 (0, 0)) := by rw [← hw3, Below.heap_alloc _ _ _ (by simp)]; exact alloc_at _ _
    have z2 : w3.heap[w2.heap.size + 1]? = some (.cells #[.int .i64 kind, .int .i64 (frm % 9), .int .i64 (tto % 9), .int .i64 (gang % 1000000), .slice none 0 0, .slice none 0 0, .bool yes] 26 (0, 0)) := by rw [← hw3]; exact alloc_second _ _ _
    clear hw3
    obtain ⟨ff, hff, iff'⟩ : ∃ ff, frm % 9 = ff ∧ Int63 ff := ⟨_, rfl, ⟨by omega, by omega⟩⟩
    rw [hff] at z2
    have IF := Lib.hid iff'
    clear hff iff'
    obtain ⟨ts1, hts1⟩ : ∃ ts, str (textOf kd sr ds gg y) = ts := ⟨_, rfl⟩
    obtain ⟨ts2, hts2⟩ : ∃ ts, str (textOf kind ff (tto % 9) (gang % 1000000) yes) = ts := ⟨_, rfl⟩
    have HS1 := Lib.hid hts1
    have HS2 := Lib.hid hts2
    have Z1 := Lib.hid z1
    have Z2 := Lib.hid z2
    have HB3 := Lib.hid (below_call HB2.out hb3)
    clear hts1 hts2 z1 z2 hb3 kneg
    refine' Par.wp_region_pars (fun w w' => Below w.heap.size w w') 12 (by kernel_rfl) (by kernel_rfl) (by kernel_rfl) (by kernel_rfl) (by kernel_rfl) (by kernel_rfl)
      (fun w => Below.refl _ w) (fun h k => below_call h k) (fun vals => ?_)
    rotate_left
    simp only [List.take_succ_cons, List.take_zero, List.drop_succ_cons, List.drop_zero]
    (apply Par.par_x rfl; (focus (intro w6 hR hD K hK; replace hK := Lib.hid hK; have z := block_below (w := w3.drew) Z1.out hR; have e0 := cell_of_block z 0 _ rfl; have e1 := cell_of_block z 1 _ rfl; have e2 := cell_of_block z 2 _ rfl; have e3 := cell_of_block z 3 _ rfl; have e4 := cell_of_block z 4 _ rfl; have e5 := cell_of_block z 5 _ rfl; have e6 := cell_of_block z 6 _ rfl; clear z; clear hR hD; go_simp; exact hK.out _ (Below.refl _ _))); simp only [Act.put, List.setIfInBounds_toArray, List.set_cons_zero, List.set_cons_succ, Nat.reduceAdd, List.cons_append, List.nil_append])
    (apply Par.par_x rfl; (focus (intro w6 hR hD K hK; replace hK := Lib.hid hK; have htb := HT.out.below (below_call HB3.out.drew hR); clear hR hD; go_simp; refine (text_any w6 htb kd sr ds gg _ _ y I1.out I2.out.wide I3.out.wide I4.out.wide).mono ?_; rw [HS1.out]; rintro r w7 ⟨rfl, hb⟩; exact hK.out _ hb)); simp only [Act.put, List.setIfInBounds_toArray, List.set_cons_zero, List.set_cons_succ, Nat.reduceAdd, List.cons_append, List.nil_append])
    (apply Par.par_x rfl; (focus (intro w6 hR hD K hK; replace hK := Lib.hid hK; have z := block_below (w := w3.drew) Z1.out hR; have e0 := cell_of_block z 0 _ rfl; have e1 := cell_of_block z 1 _ rfl; have e2 := cell_of_block z 2 _ rfl; have e3 := cell_of_block z 3 _ rfl; have e4 := cell_of_block z 4 _ rfl; have e5 := cell_of_block z 5 _ rfl; have e6 := cell_of_block z 6 _ rfl; clear z; clear hR hD; go_simp; exact hK.out _ (Below.refl _ _))); simp only [Act.put, List.setIfInBounds_toArray, List.set_cons_zero, List.set_cons_succ, Nat.reduceAdd, List.cons_append, List.nil_append])
    (apply Par.par_x rfl; (focus (intro w6 hR hD K hK; replace hK := Lib.hid hK; clear hR hD; go_simp; refine (rtext_any w6 kd sr ds gg _ _ y I1.out I2.out I3.out I4.out).mono ?_; rw [HS1.out]; rintro r w7 ⟨rfl, hb⟩; exact hK.out _ hb)); simp only [Act.put, List.setIfInBounds_toArray, List.set_cons_zero, List.set_cons_succ, Nat.reduceAdd, List.cons_append, List.nil_append])
    (apply Par.par_x rfl; (focus (intro w6 hR hD K hK; replace hK := Lib.hid hK; skip; clear hR hD; go_simp; exact hK.out _ (Below.refl _ _))); simp only [Act.put, List.setIfInBounds_toArray, List.set_cons_zero, List.set_cons_succ, Nat.reduceAdd, List.cons_append, List.nil_append])
    (apply Par.par_x rfl; (focus (intro w6 hR hD K hK; replace hK := Lib.hid hK; skip; clear hR hD; go_simp; exact hK.out _ (Below.refl _ _))); simp only [Act.put, List.setIfInBounds_toArray, List.set_cons_zero, List.set_cons_succ, Nat.reduceAdd, List.cons_append, List.nil_append])
    (apply Par.par_g; (focus (intro w6 hR hD K hK; replace hK := Lib.hid hK; have z := block_below (w := w3.drew) Z2.out hR; have e0 := cell_of_block z 0 _ rfl; have e1 := cell_of_block z 1 _ rfl; have e2 := cell_of_block z 2 _ rfl; have e3 := cell_of_block z 3 _ rfl; have e4 := cell_of_block z 4 _ rfl; have e5 := cell_of_block z 5 _ rfl; have e6 := cell_of_block z 6 _ rfl; clear z; clear hR hD; go_simp; exact hK.out _ (Below.refl _ _))); simp only [Act.put, List.setIfInBounds_toArray, List.set_cons_zero, List.set_cons_succ, Nat.reduceAdd, List.cons_append, List.nil_append])
    (apply Par.par_g; (focus (intro w6 hR hD K hK; replace hK := Lib.hid hK; have htb := HT.out.below (below_call HB3.out.drew hR); clear hR hD; go_simp; refine (text_any w6 htb kind ff (tto % 9) (gang % 1000000) _ _ yes HK.out IF.out.wide (int63_mod _ _ (by omega) (by omega)).wide (int63_mod _ _ (by omega) (by omega)).wide).mono ?_; rw [HS2.out]; rintro r w7 ⟨rfl, hb⟩; exact hK.out _ hb)); simp only [Act.put, List.setIfInBounds_toArray, List.set_cons_zero, List.set_cons_succ, Nat.reduceAdd, List.cons_append, List.nil_append])
    (apply Par.par_g; (focus (intro w6 hR hD K hK; replace hK := Lib.hid hK; have z := block_below (w := w3.drew) Z2.out hR; have e0 := cell_of_block z 0 _ rfl; have e1 := cell_of_block z 1 _ rfl; have e2 := cell_of_block z 2 _ rfl; have e3 := cell_of_block z 3 _ rfl; have e4 := cell_of_block z 4 _ rfl; have e5 := cell_of_block z 5 _ rfl; have e6 := cell_of_block z 6 _ rfl; clear z; clear hR hD; go_simp; exact hK.out _ (Below.refl _ _))); simp only [Act.put, List.setIfInBounds_toArray, List.set_cons_zero, List.set_cons_succ, Nat.reduceAdd, List.cons_append, List.nil_append])
    (apply Par.par_g; (focus (intro w6 hR hD K hK; replace hK := Lib.hid hK; clear hR hD; go_simp; refine (rtext_any w6 kind ff (tto % 9) (gang % 1000000) _ _ yes HK.out IF.out (int63_mod _ _ (by omega) (by omega)) (int63_mod _ _ (by omega) (by omega))).mono ?_; rw [HS2.out]; rintro r w7 ⟨rfl, hb⟩; exact hK.out _ hb)); simp only [Act.put, List.setIfInBounds_toArray, List.set_cons_zero, List.set_cons_succ, Nat.reduceAdd, List.cons_append, List.nil_append])
    (apply Par.par_g; (focus (intro w6 hR hD K hK; replace hK := Lib.hid hK; skip; clear hR hD; go_simp; exact hK.out _ (Below.refl _ _))); simp only [Act.put, List.setIfInBounds_toArray, List.set_cons_zero, List.set_cons_succ, Nat.reduceAdd, List.cons_append, List.nil_append])
    (apply Par.par_x rfl; (focus (intro w6 hR hD K hK; replace hK := Lib.hid hK; skip; clear hR hD; go_simp; exact hK.out _ (Below.refl _ _))); simp only [Act.put, List.setIfInBounds_toArray, List.set_cons_zero, List.set_cons_succ, Nat.reduceAdd, List.cons_append, List.nil_append])
    refine Par.par_end fun w6 hR hp => ?_
    clear hp
    have HB6 := Lib.hid (below_call HB3.out.drew hR)
    clear hR
    go_wp2
    go_ret
    exact ⟨rfl, HB6.out⟩
theorem int64_wf {n : Int} (h : (Lit.int .i64 n).wf = true) : Int64 n := by
  unfold Int64
  simp only [Lit.wf, Bool.and_eq_true, decide_eq_true_eq] at h
  exact ⟨h.1, h.2⟩
theorem postText_row (n kind frm tto gang : Int) (yes : Bool) (w : World) (_ : (Lit.int .i64 n).wf = true) (h : (Lit.int .i64 kind).wf = true) (_ : (Lit.int .i64 frm).wf = true) (_ : (Lit.int .i64 tto).wf = true) (_ : (Lit.int .i64 gang).wf = true) (ht : Tabs w) : Calls Tryd.prog 3 #[.int .i64 n, .int .i64 kind, .int .i64 frm, .int .i64 tto, .int .i64 gang, .bool yes] w fun e w' => e = .returned (.bool true) ∧ Below w.heap.size w w' :=
  postText_any n kind frm tto gang yes (int64_wf h) w ht
end Go.Proofs.YtpkkjonajimefaaDoor
