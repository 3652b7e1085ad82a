/- Vecs, by the program: whether one fits, and both added up. -/
import Derived.Test.YtofofjfmhaggmaaGreatDoorRg
import Derived.WalkLawsBesides
import Derived.Test.YtofofjfmhaggmaaGreatDoorPf
import Derived.Test.YtofofjfmhaggmaaGreatDoorSe
import Derived.Deep.QuietTactic
import Derived.BigQuiet
set_option linter.unusedVariables false
set_option linter.unusedSimpArgs false
namespace Go.Proofs.YtofofjfmhaggmaaGreatDoor
open Go.RowKit

set_option maxRecDepth 100000 in
theorem parts_any (a b : Int) (w : World) : Calls Tryz.prog 107 #[.agg #[.int .i64 a, .int .i64 b]] w fun e w' => e = .returned (.agg #[.int .i64 a, .int .i64 b]) ∧ Below w.heap.size w w' := by
  go_enter Tryz.func107, Tryz.ntmps107
  go_wp2
  exact bodyPost_ret (v := .agg #[.int .i64 a, .int .i64 b]) (by simp [results, Tryz.results107, go_sem]) rfl ⟨rfl, below_alloc' (below_alloc' (Below.refl _ _) _) _⟩
set_option maxRecDepth 100000 in
theorem whole_any (a b : Int) (w : World) : Calls Tryz.prog 186 #[.agg #[.int .i64 a, .int .i64 b]] w fun e w' => e = .returned (.agg #[.int .i64 a, .int .i64 b]) ∧ Below w.heap.size w w' := by
  go_enter Tryz.func186, Tryz.ntmps186
  go_wp2
  exact bodyPost_ret (v := .agg #[.int .i64 a, .int .i64 b]) (by simp [results, Tryz.results186, go_sem]) rfl ⟨rfl, below_alloc' (below_alloc' (Below.refl _ _) _) _⟩
set_option maxRecDepth 100000 in
theorem right_any (a b : Nat) (w : World) : Calls Tryz.prog 128 #[.agg #[.int .i64 a, .int .i64 b]] w fun e w' => e = .returned (.bool true) ∧ Below w.heap.size w w' := by
  have h0 : (0 : Int) ≤ a := by omega
  have h1 : (0 : Int) ≤ b := by omega
  go_enter Tryz.func128, Tryz.ntmps128
  go_wp2
  go_ret
  exact ⟨rfl, below_alloc' (Below.refl _ _) _⟩
set_option maxRecDepth 100000 in
theorem lesser_is (a b c d x y : Int) (h : (if a ≤ c ∧ b ≤ d then (a, b) else (c, d)) = (x, y)) (w : World) : Calls Tryz.prog 108 #[.agg #[.int .i64 a, .int .i64 b], .agg #[.int .i64 c, .int .i64 d]] w fun e w' => e = .returned (.agg #[.int .i64 x, .int .i64 y]) ∧ Below w.heap.size w w' := by
  have HB3 : ∀ (w : World) (o1 o2 o3 : Obj), Below w.heap.size w (((w.alloc o1).alloc o2).alloc o3) := fun w o1 o2 o3 => below_alloc' (below_alloc' (below_alloc' (Below.refl _ _) _) _) _
  by_cases h1 : a ≤ c
  · have b1 : decide (a > c) = false := by simp; omega
    by_cases h2 : b ≤ d
    · rw [if_pos ⟨h1, h2⟩] at h
      injection h with h3 h4
      subst h3 h4
      have b2 : decide (b > d) = false := by simp; omega
      go_enter Tryz.func108, Tryz.ntmps108
      go_wp2
      refine wp_loop_rounds 3 ?_
      rw [rounds_succ]
      go_wp2_with fail
      go_quiet (fail)
      go_wp2
      rw [rounds_succ]
      go_wp2_with fail
      go_quiet (fail)
      go_wp2
      rw [rounds_succ]
      go_wp2
      exact bodyPost_ret (v := .agg #[.int .i64 a, .int .i64 b]) (by simp [results, Tryz.results108, go_sem]) rfl ⟨rfl, ((below_drewN' (HB3 _ _ _ _) _).setCell (Nat.le_succ_of_le (Nat.le_succ _)) _).setCell (Nat.le_succ_of_le (Nat.le_succ _)) _⟩
    · rw [if_neg (fun k => h2 k.2)] at h
      injection h with h3 h4
      subst h3 h4
      have b2 : decide (b > d) = true := by simp; omega
      go_enter Tryz.func108, Tryz.ntmps108
      go_wp2
      refine wp_loop_rounds 3 ?_
      rw [rounds_succ]
      go_wp2_with fail
      go_quiet (fail)
      go_wp2
      rw [rounds_succ]
      go_wp2_with fail
      go_quiet (fail)
      go_wp2
      exact bodyPost_ret (v := .agg #[.int .i64 c, .int .i64 d]) (by simp [results, Tryz.results108, go_sem]) rfl ⟨rfl, ((below_drewN' (HB3 _ _ _ _) _).setCell (Nat.le_succ_of_le (Nat.le_succ _)) _).setCell (Nat.le_succ_of_le (Nat.le_succ _)) _⟩
  · rw [if_neg (fun k => h1 k.1)] at h
    injection h with h3 h4
    subst h3 h4
    have b1 : decide (a > c) = true := by simp; omega
    go_enter Tryz.func108, Tryz.ntmps108
    go_wp2
    refine wp_loop_rounds 3 ?_
    rw [rounds_succ]
    go_wp2_with fail
    go_quiet (fail)
    go_wp2
    exact bodyPost_ret (v := .agg #[.int .i64 c, .int .i64 d]) (by simp [results, Tryz.results108, go_sem]) rfl ⟨rfl, ((below_drewN' (HB3 _ _ _ _) _).setCell (Nat.le_succ_of_le (Nat.le_succ _)) _).setCell (Nat.le_succ_of_le (Nat.le_succ _)) _⟩
set_option maxRecDepth 100000 in
theorem add1_any (x y : Int) (hx : 0 ≤ x) (hy : 0 ≤ y) (hs : x + y ≤ 9223372036854775807) (w : World) : Calls Tryz.prog 130 #[.int .i64 x, .int .i64 y] w fun e w' => e = .returned (.tuple #[.int .i64 (x + y), .bool true]) ∧ w = w' := by
  have h1 : ¬ x > 9223372036854775807 - y := by omega
  go_enter Tryz.func130, Tryz.ntmps130
  go_wp2
  go_ret2
  exact ⟨rfl, rfl⟩
theorem arr_eq (w : World) (a b c d : Int) : (Op.equalIn 10000 182 (.agg #[.int .i64 a, .int .i64 b]) (.agg #[.int .i64 c, .int .i64 d])).run Tryz.prog w = .ok (a == c && b == d) w := by
  have h3 : ∀ w a b, (Op.equalIn 9999 3 (.int .i64 a) (.int .i64 b)).run Tryz.prog w = .ok (a == b) w := fun w a b => run_equalIn_int w 9998 3 .i64 .i64 a b Tryz.underlying3
  have hag : ∀ w, (isAgg 3).run Tryz.prog w = .ok false w := fun w => by kernel_rfl
  show (Op.equalIn (9999 + 1) 182 _ _).run _ _ = _
  rw [Op.equalIn.eq_def]
  simp [run_underlying Tryz.underlying182, go_sem, Result.andThen]
  rw [show List.range' 0 2 = [0, 1] from rfl]
  simp only [List.forIn_cons, List.forIn_nil, Sem.run_bind, hag, Result.andThen]
  simp [hag, h3, Result.andThen]
  cases h : (a == c) <;> cases h' : (b == d) <;> simp_all [Result.andThen]
theorem fits_facts {w w2 : World} {g h : Nat} {a b c d : Int} (hg : w2.heap[g]? = some (.cells #[.int .i64 a, .int .i64 b] 58 (0, 0))) (hh : w2.heap[h]? = some (.cells #[.int .i64 c, .int .i64 d] 182 (0, 0))) :
    ∀ w6, Below w2.heap.size w2.drew w6 → w6.cell? ⟨g, 0, none⟩ = some (.int .i64 a) ∧ w6.cell? ⟨g, 1, none⟩ = some (.int .i64 b) ∧ w6.cell? ⟨h, 0, none⟩ = some (.int .i64 c) ∧ w6.cell? ⟨h, 1, none⟩ = some (.int .i64 d) := fun w6 hb => by
  have hb' : Below w2.heap.size w2 w6 := (Below.refl w2.heap.size w2).drew.trans hb
  have k := block_below hg hb'
  have k' := block_below hh hb'
  exact ⟨cell_of_block k 0 _ rfl, cell_of_block k 1 _ rfl, cell_of_block k' 0 _ rfl, cell_of_block k' 1 _ rfl⟩
set_option maxRecDepth 100000 in
theorem fits_no (a b c d x y : Int) (w : World) (hl : (if a ≤ c ∧ b ≤ d then (a, b) else (c, d)) = (x, y)) (hp : ∀ w, (Op.equalIn 10000 182 (.agg #[.int .i64 x, .int .i64 y]) (.agg #[.int .i64 c, .int .i64 d])).run Tryz.prog w = .ok false w) : Calls Tryz.prog 80 #[.agg #[.int .i64 a, .int .i64 b], .agg #[.int .i64 c, .int .i64 d]] w fun e w' => e = .returned (.bool true) ∧ Below w.heap.size w w' := by
  have HL := Lib.hid hl
  have HP := Lib.hid hp
  clear hl hp
  go_enter Tryz.func80, Tryz.ntmps80
  go_wp2_with fail
  refine (parts_any _ _ _).mono ?_
  rintro e w1 ⟨rfl, hb1⟩
  have HB1 := Lib.hid (below_call (below_alloc' (below_alloc' (Below.refl _ _) _) _) hb1)
  have B0 := Lib.hid (block_below (block_below (alloc_at w (.cells #[.int .i64 a, .int .i64 b] 58)) (below_alloc' (Below.refl _ _) _)) hb1)
  clear hb1
  go_wp2_with fail
  have HF := Lib.hid (fits_facts (w := w) (block_below B0.out (below_alloc' (Below.refl _ _) (.cells #[.int .i64 c, .int .i64 d] 182))) (alloc_at w1 (.cells #[.int .i64 c, .int .i64 d] 182)))
  have HB2 := Lib.hid (below_alloc' HB1.out (.cells #[.int .i64 c, .int .i64 d] 182))
  generalize World.alloc w1 _ = w2 at HF HB2 ⊢
  refine' Par.wp_region_pars (fun w w' => Below w.heap.size w w') 13 (by kernel_rfl) (by kernel_rfl) (by kernel_rfl) (by kernel_rfl) (by kernel_rfl) (by kernel_rfl)
    (fun w => Below.refl _ w) (fun h k => below_call h k) (fun vals => ?_)
  rotate_left
  simp only [List.take_succ_cons, List.take_zero, List.drop_succ_cons, List.drop_zero]
  (apply Par.par_x rfl; (focus (intro w6 hR hD K hK; replace hK := Lib.hid hK; obtain ⟨e0, e1, e2, e3⟩ := HF.out w6 hR; clear hR hD; go_simp; exact hK.out _ (Below.refl _ _))); simp only [Act.put, List.setIfInBounds_toArray, List.set_cons_zero, List.set_cons_succ, Nat.reduceAdd, List.cons_append, List.nil_append])
  (apply Par.par_x rfl; (focus (intro w6 hR hD K hK; replace hK := Lib.hid hK; clear hR hD; go_simp; refine (parts_any _ _ _).mono ?_; rintro e w7 ⟨rfl, hb⟩; exact hK.out _ hb)); simp only [Act.put, List.setIfInBounds_toArray, List.set_cons_zero, List.set_cons_succ, Nat.reduceAdd, List.cons_append, List.nil_append])
  (apply Par.par_x rfl; (focus (intro w6 hR hD K hK; replace hK := Lib.hid hK; obtain ⟨e0, e1, e2, e3⟩ := HF.out w6 hR; clear hR hD; go_simp; exact hK.out _ (Below.refl _ _))); simp only [Act.put, List.setIfInBounds_toArray, List.set_cons_zero, List.set_cons_succ, Nat.reduceAdd, List.cons_append, List.nil_append])
  (apply Par.par_x rfl; (focus (intro w6 hR hD K hK; replace hK := Lib.hid hK; clear hR hD; go_simp; refine (lesser_is a b c d x y HL.out _).mono ?_; rintro e w7 ⟨rfl, hb⟩; exact hK.out _ hb)); simp only [Act.put, List.setIfInBounds_toArray, List.set_cons_zero, List.set_cons_succ, Nat.reduceAdd, List.cons_append, List.nil_append])
  (apply Par.par_x rfl; (focus (intro w6 hR hD K hK; replace hK := Lib.hid hK; obtain ⟨e0, e1, e2, e3⟩ := HF.out w6 hR; clear hR hD; go_simp; exact hK.out _ (Below.refl _ _))); simp only [Act.put, List.setIfInBounds_toArray, List.set_cons_zero, List.set_cons_succ, Nat.reduceAdd, List.cons_append, List.nil_append])
  (apply Par.par_x rfl; (focus (intro w6 hR hD K hK; replace hK := Lib.hid hK; have hp := HP.out; clear hR hD; go_simp; exact hK.out _ (Below.refl _ _))); simp only [Act.put, List.setIfInBounds_toArray, List.set_cons_zero, List.set_cons_succ, Nat.reduceAdd, List.cons_append, List.nil_append])
  (apply Par.par_x rfl; (focus (intro w6 hR hD K hK; replace hK := Lib.hid hK; skip; clear hR hD; go_simp; exact hK.out _ (Below.refl _ _))); simp only [Act.put, List.setIfInBounds_toArray, List.set_cons_zero, List.set_cons_succ, Nat.reduceAdd, List.cons_append, List.nil_append])
  iterate 4 (apply Par.par_g (e := undef); (focus (intro w6 hR hD K hK; replace hK := Lib.hid hK; clear hR hD; go_simp; exact hK.out _ (Below.refl _ _))); simp only [Act.put, List.setIfInBounds_toArray, List.set_cons_zero, List.set_cons_succ, Nat.reduceAdd, List.cons_append, List.nil_append])
  iterate 2 (apply Par.par_x rfl; (focus (intro w6 hR hD K hK; replace hK := Lib.hid hK; skip; clear hR hD; go_simp; exact hK.out _ (Below.refl _ _))); simp only [Act.put, List.setIfInBounds_toArray, List.set_cons_zero, List.set_cons_succ, Nat.reduceAdd, List.cons_append, List.nil_append])
  refine Par.par_end fun w6 hR hp => ?_
  have HB6 := Lib.hid (HB2.out.trans (((Below.refl w2.heap.size w2).drew.trans hR).mono HB2.out.size))
  clear hR hp
  go_wp2
  go_ret
  exact ⟨rfl, HB6.out⟩
set_option maxRecDepth 100000 in
theorem fits_yes (a b c d x y : Int) (q : Bool) (w : World) (hl : (if a ≤ c ∧ b ≤ d then (a, b) else (c, d)) = (x, y)) (hp : ∀ w, (Op.equalIn 10000 182 (.agg #[.int .i64 x, .int .i64 y]) (.agg #[.int .i64 c, .int .i64 d])).run Tryz.prog w = .ok true w) (hq : ∀ w, (Op.equalIn 10000 182 (.agg #[.int .i64 a, .int .i64 b]) (.agg #[.int .i64 c, .int .i64 d])).run Tryz.prog w = .ok q w) : Calls Tryz.prog 80 #[.agg #[.int .i64 a, .int .i64 b], .agg #[.int .i64 c, .int .i64 d]] w fun e w' => e = .returned (.bool q) ∧ Below w.heap.size w w' := by
  have HL := Lib.hid hl
  have HP := Lib.hid hp
  have HQ := Lib.hid hq
  clear hl hp hq
  go_enter Tryz.func80, Tryz.ntmps80
  go_wp2_with fail
  refine (parts_any _ _ _).mono ?_
  rintro e w1 ⟨rfl, hb1⟩
  have HB1 := Lib.hid (below_call (below_alloc' (below_alloc' (Below.refl _ _) _) _) hb1)
  have B0 := Lib.hid (block_below (block_below (alloc_at w (.cells #[.int .i64 a, .int .i64 b] 58)) (below_alloc' (Below.refl _ _) _)) hb1)
  clear hb1
  go_wp2_with fail
  have HF := Lib.hid (fits_facts (w := w) (block_below B0.out (below_alloc' (Below.refl _ _) (.cells #[.int .i64 c, .int .i64 d] 182))) (alloc_at w1 (.cells #[.int .i64 c, .int .i64 d] 182)))
  have HB2 := Lib.hid (below_alloc' HB1.out (.cells #[.int .i64 c, .int .i64 d] 182))
  generalize World.alloc w1 _ = w2 at HF HB2 ⊢
  refine' Par.wp_region_pars (fun w w' => Below w.heap.size w w') 13 (by kernel_rfl) (by kernel_rfl) (by kernel_rfl) (by kernel_rfl) (by kernel_rfl) (by kernel_rfl)
    (fun w => Below.refl _ w) (fun h k => below_call h k) (fun vals => ?_)
  rotate_left
  simp only [List.take_succ_cons, List.take_zero, List.drop_succ_cons, List.drop_zero]
  (apply Par.par_x rfl; (focus (intro w6 hR hD K hK; replace hK := Lib.hid hK; obtain ⟨e0, e1, e2, e3⟩ := HF.out w6 hR; clear hR hD; go_simp; exact hK.out _ (Below.refl _ _))); simp only [Act.put, List.setIfInBounds_toArray, List.set_cons_zero, List.set_cons_succ, Nat.reduceAdd, List.cons_append, List.nil_append])
  (apply Par.par_x rfl; (focus (intro w6 hR hD K hK; replace hK := Lib.hid hK; clear hR hD; go_simp; refine (parts_any _ _ _).mono ?_; rintro e w7 ⟨rfl, hb⟩; exact hK.out _ hb)); simp only [Act.put, List.setIfInBounds_toArray, List.set_cons_zero, List.set_cons_succ, Nat.reduceAdd, List.cons_append, List.nil_append])
  (apply Par.par_x rfl; (focus (intro w6 hR hD K hK; replace hK := Lib.hid hK; obtain ⟨e0, e1, e2, e3⟩ := HF.out w6 hR; clear hR hD; go_simp; exact hK.out _ (Below.refl _ _))); simp only [Act.put, List.setIfInBounds_toArray, List.set_cons_zero, List.set_cons_succ, Nat.reduceAdd, List.cons_append, List.nil_append])
  (apply Par.par_x rfl; (focus (intro w6 hR hD K hK; replace hK := Lib.hid hK; clear hR hD; go_simp; refine (lesser_is a b c d x y HL.out _).mono ?_; rintro e w7 ⟨rfl, hb⟩; exact hK.out _ hb)); simp only [Act.put, List.setIfInBounds_toArray, List.set_cons_zero, List.set_cons_succ, Nat.reduceAdd, List.cons_append, List.nil_append])
  (apply Par.par_x rfl; (focus (intro w6 hR hD K hK; replace hK := Lib.hid hK; obtain ⟨e0, e1, e2, e3⟩ := HF.out w6 hR; clear hR hD; go_simp; exact hK.out _ (Below.refl _ _))); simp only [Act.put, List.setIfInBounds_toArray, List.set_cons_zero, List.set_cons_succ, Nat.reduceAdd, List.cons_append, List.nil_append])
  (apply Par.par_x rfl; (focus (intro w6 hR hD K hK; replace hK := Lib.hid hK; have hp := HP.out; clear hR hD; go_simp; exact hK.out _ (Below.refl _ _))); simp only [Act.put, List.setIfInBounds_toArray, List.set_cons_zero, List.set_cons_succ, Nat.reduceAdd, List.cons_append, List.nil_append])
  (apply Par.par_x rfl; (focus (intro w6 hR hD K hK; replace hK := Lib.hid hK; skip; clear hR hD; go_simp; exact hK.out _ (Below.refl _ _))); simp only [Act.put, List.setIfInBounds_toArray, List.set_cons_zero, List.set_cons_succ, Nat.reduceAdd, List.cons_append, List.nil_append])
  (apply Par.par_g; (focus (intro w6 hR hD K hK; replace hK := Lib.hid hK; obtain ⟨e0, e1, e2, e3⟩ := HF.out w6 hR; clear hR hD; go_simp; exact hK.out _ (Below.refl _ _))); simp only [Act.put, List.setIfInBounds_toArray, List.set_cons_zero, List.set_cons_succ, Nat.reduceAdd, List.cons_append, List.nil_append])
  (apply Par.par_g; (focus (intro w6 hR hD K hK; replace hK := Lib.hid hK; clear hR hD; go_simp; refine (parts_any _ _ _).mono ?_; rintro e w7 ⟨rfl, hb⟩; exact hK.out _ hb)); simp only [Act.put, List.setIfInBounds_toArray, List.set_cons_zero, List.set_cons_succ, Nat.reduceAdd, List.cons_append, List.nil_append])
  (apply Par.par_g; (focus (intro w6 hR hD K hK; replace hK := Lib.hid hK; obtain ⟨e0, e1, e2, e3⟩ := HF.out w6 hR; clear hR hD; go_simp; exact hK.out _ (Below.refl _ _))); simp only [Act.put, List.setIfInBounds_toArray, List.set_cons_zero, List.set_cons_succ, Nat.reduceAdd, List.cons_append, List.nil_append])
  (apply Par.par_g; (focus (intro w6 hR hD K hK; replace hK := Lib.hid hK; have hq := HQ.out; clear hR hD; go_simp; exact hK.out _ (Below.refl _ _))); simp only [Act.put, List.setIfInBounds_toArray, List.set_cons_zero, List.set_cons_succ, Nat.reduceAdd, List.cons_append, List.nil_append])
  iterate 2 (apply Par.par_x rfl; (focus (intro w6 hR hD K hK; replace hK := Lib.hid hK; skip; clear hR hD; go_simp; exact hK.out _ (Below.refl _ _))); simp only [Act.put, List.setIfInBounds_toArray, List.set_cons_zero, List.set_cons_succ, Nat.reduceAdd, List.cons_append, List.nil_append])
  refine Par.par_end fun w6 hR hp => ?_
  have HB6 := Lib.hid (HB2.out.trans (((Below.refl w2.heap.size w2).drew.trans hR).mono HB2.out.size))
  clear hR hp
  go_wp2
  go_ret
  exact ⟨rfl, HB6.out⟩
theorem fits_is (a b c d : Nat) (f : Bool) (hf : (decide (a ≤ c) && decide (b ≤ d)) = f) (w : World) : Calls Tryz.prog 80 #[.agg #[.int .i64 a, .int .i64 b], .agg #[.int .i64 c, .int .i64 d]] w fun e w' => e = .returned (.bool f) ∧ Below w.heap.size w w' := by
  subst hf
  by_cases h : a ≤ c ∧ b ≤ d
  · have e1 : (decide (a ≤ c) && decide (b ≤ d)) = true := by simp [h.1, h.2]
    have hl : (if (a : Int) ≤ c ∧ (b : Int) ≤ d then ((a : Int), (b : Int)) else ((c : Int), (d : Int))) = ((a : Int), (b : Int)) := if_pos (by omega)
    rw [e1]
    by_cases k : a = c ∧ b = d
    · have e2 : ((a : Int) == c && (b : Int) == d) = true := by simp [k.1, k.2]
      exact fits_yes a b c d a b true w hl (fun w => by rw [arr_eq, e2]) (fun w => by rw [arr_eq, e2])
    · have e2 : ((a : Int) == c && (b : Int) == d) = false := by
        rw [Bool.and_eq_false_iff, beq_eq_false_iff_ne, beq_eq_false_iff_ne]; omega
      exact fits_no a b c d a b w hl (fun w => by rw [arr_eq, e2])
  · have e1 : (decide (a ≤ c) && decide (b ≤ d)) = false := by
      rw [Bool.and_eq_false_iff, decide_eq_false_iff_not, decide_eq_false_iff_not]; omega
    have hl : (if (a : Int) ≤ c ∧ (b : Int) ≤ d then ((a : Int), (b : Int)) else ((c : Int), (d : Int))) = ((c : Int), (d : Int)) := if_neg (by omega)
    have e2 : ((a : Int) == c && (b : Int) == d) = false := by
      rw [Bool.and_eq_false_iff, beq_eq_false_iff_ne, beq_eq_false_iff_ne]; omega
    rw [e1]
    exact fits_yes a b c d c d false w hl (fun w => by rw [arr_eq]; simp) (fun w => by rw [arr_eq, e2])
theorem far_set {w : World} {b c j : Nat} {o : Obj} (v : Value) (h : w.heap[c]? = some o) (hne : c ≠ b) : (w.setCell ⟨b, j, none⟩ v).heap[c]? = some o := (Below.heap_setCell _ _ _ _ hne).trans h
def EachS (a b c d : Int) (w w' : World) : Prop := w'.cell? ⟨w.heap.size, 0, none⟩ = some (.int .i64 a) ∧ w'.cell? ⟨w.heap.size, 1, none⟩ = some (.int .i64 b) ∧ w'.cell? ⟨w.heap.size + 1, 0, none⟩ = some (.int .i64 c) ∧ w'.cell? ⟨w.heap.size + 1, 1, none⟩ = some (.int .i64 d)
def Each5 (a b c d : Int) (w4 : World) (g h : Nat) (v : World) : Prop := Below w4.heap.size w4 v ∧ v.heap[g]? = some (.cells #[.int .i64 a, .int .i64 b] 182 (0, 0)) ∧ v.heap[h]? = some (.cells #[.int .i64 c, .int .i64 d] 182 (0, 0))
def Each2 (a b c d : Int) (g h : Nat) (w' : World) : Prop := w'.cell? ⟨g, 0, none⟩ = some (.int .i64 a) ∧ w'.cell? ⟨g, 1, none⟩ = some (.int .i64 b) ∧ w'.cell? ⟨h, 0, none⟩ = some (.int .i64 c) ∧ w'.cell? ⟨h, 1, none⟩ = some (.int .i64 d)
theorem eachS_below {a b c d : Int} {w v v' : World} (h : EachS a b c d w v) (k : Below v.heap.size v v') : EachS a b c d w v' := ⟨cell_below h.1 k, cell_below h.2.1 k, cell_below h.2.2.1 k, cell_below h.2.2.2 k⟩
set_option maxRecDepth 100000 in
set_option maxHeartbeats 1000000 in
theorem each_add (a b c d : Nat) (h1 : a + c ≤ 4611686018427387904) (h2 : b + d ≤ 4611686018427387904) (w : World) : Calls Tryz.prog 129 #[.agg #[.int .i64 a, .int .i64 b], .agg #[.int .i64 c, .int .i64 d], .func (.func 130) #[] #[]] w fun e w' => e = .returned (.tuple #[.agg #[.int .i64 (a + c : Nat), .int .i64 (b + d : Nat)], .int .i64 0]) ∧ Below w.heap.size w w' := by
  have hc0 : (a : Int) + c = ((a + c : Nat) : Int) := by omega
  have hc1 : (b : Int) + d = ((b + d : Nat) : Int) := by omega
  have HC := Lib.hid (And.intro hc0 hc1)
  clear hc0 hc1
  go_enter Tryz.func129, Tryz.ntmps129
  go_wp2_with fail
  have hb0 : Below w.heap.size w (((w.alloc (.cells #[.int .i64 a, .int .i64 b] 58)).alloc (.cells #[.int .i64 c, .int .i64 d] 58)).alloc (.cells #[.int .i64 0, .int .i64 0] 58)) := below_alloc' (below_alloc' (below_alloc' (Below.refl _ _) _) _) _
  have z0 := block_below (block_below (alloc_at w (.cells #[.int .i64 a, .int .i64 b] 58)) (below_alloc' (Below.refl _ _) (.cells #[.int .i64 c, .int .i64 d] 58))) (below_alloc' (Below.refl _ _) (.cells #[.int .i64 0, .int .i64 0] 58))
  have z1 := block_below (alloc_second w (.cells #[.int .i64 a, .int .i64 b] 58) (.cells #[.int .i64 c, .int .i64 d] 58)) (below_alloc' (Below.refl _ _) (.cells #[.int .i64 0, .int .i64 0] 58))
  have z2 := alloc_second (w.alloc (.cells #[.int .i64 a, .int .i64 b] 58)) (.cells #[.int .i64 c, .int .i64 d] 58) (.cells #[.int .i64 0, .int .i64 0] 58)
  rw [World.size_alloc] at z2
  generalize World.alloc (World.alloc (World.alloc w _) _) _ = w1 at hb0 z0 z1 z2 ⊢
  refine (right_any a b _).mono ?_
  rintro e w2 ⟨rfl, hb⟩
  replace hb0 := below_call hb0 hb
  replace z0 := block_below z0 hb
  replace z1 := block_below z1 hb
  replace z2 := block_below z2 hb
  clear hb
  have k2 := cell_of_block z1 0 _ rfl
  have k3 := cell_of_block z1 1 _ rfl
  have H0 := Lib.hid hb0
  have Z0 := Lib.hid z0
  have Z1 := Lib.hid z1
  have Z2 := Lib.hid z2
  clear hb0 z0 z1 z2
  go_wp2_with fail
  refine (right_any c d _).mono ?_
  rintro e w3 ⟨rfl, hb⟩
  replace H0 := Lib.hid (below_call H0.out hb)
  replace Z0 := Lib.hid (block_below Z0.out hb)
  replace Z1 := Lib.hid (block_below Z1.out hb)
  replace Z2 := Lib.hid (block_below Z2.out hb)
  clear hb k2 k3
  go_wp2_with fail
  have HS3 : Hid (w.heap.size + 1 + 1 < w3.heap.size) := Lib.hid (Array.getElem?_eq_some_iff.1 Z2.out).1
  replace H0 := Lib.hid (below_alloc' H0.out (.cells #[.int .i64 0, .int .i64 0] 182))
  replace Z0 := Lib.hid (block_below Z0.out (below_alloc' (Below.refl _ _) (.cells #[.int .i64 0, .int .i64 0] 182)))
  replace Z1 := Lib.hid (block_below Z1.out (below_alloc' (Below.refl _ _) (.cells #[.int .i64 0, .int .i64 0] 182)))
  replace Z2 := Lib.hid (block_below Z2.out (below_alloc' (Below.refl _ _) (.cells #[.int .i64 0, .int .i64 0] 182)))
  have Z3 := Lib.hid (alloc_at w3 (.cells #[.int .i64 0, .int .i64 0] 182))
  generalize World.alloc w3 _ = w4 at H0 Z0 Z1 Z2 Z3 ⊢
  have hfacts : ∀ w6, Below w4.heap.size w4.drew w6 → EachS a b c d w w6 := fun w6 hb => eachS_below ⟨cell_of_block Z0.out 0 _ rfl, cell_of_block Z0.out 1 _ rfl, cell_of_block Z1.out 0 _ rfl, cell_of_block Z1.out 1 _ rfl⟩ ((Below.refl w4.heap.size w4).drew.trans hb)
  have HF := Lib.hid hfacts
  clear hfacts
  refine' Pf.wp_region_pars (fun w w' => Below w.heap.size w w') 6 (by kernel_rfl) (by kernel_rfl) (by kernel_rfl) (by kernel_rfl) (by kernel_rfl) (by kernel_rfl)
    (fun w => Below.refl _ w) (fun h k => below_call h k) (fun vals => ?_)
  rotate_left
  simp only [List.take_succ_cons, List.take_zero, List.drop_succ_cons, List.drop_zero]
  (apply Pf.par_x rfl; (focus (intro w6 hR hD K hK; replace hK := Lib.hid hK; obtain ⟨e0, e1, e2, e3⟩ := HF.out w6 hR; clear hR hD; go_simp; exact hK.out _ (Below.refl _ _))); simp only [Act.put, List.setIfInBounds_toArray, List.set_cons_zero, List.set_cons_succ, Nat.reduceAdd, List.cons_append, List.nil_append])
  (apply Pf.par_x rfl; (focus (intro w6 hR hD K hK; replace hK := Lib.hid hK; clear hR hD; go_simp; refine (parts_any _ _ _).mono ?_; rintro e w7 ⟨rfl, hb⟩; exact hK.out _ hb)); simp only [Act.put, List.setIfInBounds_toArray, List.set_cons_zero, List.set_cons_succ, Nat.reduceAdd, List.cons_append, List.nil_append])
  (apply Pf.par_x rfl; (focus (intro w6 hR hD K hK; replace hK := Lib.hid hK; obtain ⟨e0, e1, e2, e3⟩ := HF.out w6 hR; clear hR hD; go_simp; exact hK.out _ (Below.refl _ _))); simp only [Act.put, List.setIfInBounds_toArray, List.set_cons_zero, List.set_cons_succ, Nat.reduceAdd, List.cons_append, List.nil_append])
  (apply Pf.par_x rfl; (focus (intro w6 hR hD K hK; replace hK := Lib.hid hK; clear hR hD; go_simp; refine (parts_any _ _ _).mono ?_; rintro e w7 ⟨rfl, hb⟩; exact hK.out _ hb)); simp only [Act.put, List.setIfInBounds_toArray, List.set_cons_zero, List.set_cons_succ, Nat.reduceAdd, List.cons_append, List.nil_append])
  iterate 2 (apply Pf.par_f (fun v w' => ∃ g, v = .pointer (some ⟨g, 0, none⟩) ∧ w4.heap.size ≤ g ∧ w'.heap[g]? = some (.cells #[.int .i64 0, .int .i64 0] 182 (0, 0))) rfl (fun _ _ h => h.size) (fun v w1 w2 h k => by obtain ⟨g, h1, h2, h3⟩ := h; exact ⟨g, h1, h2, block_below h3 k⟩); (focus (intro w6 hR hD K hK; replace hK := Lib.hid hK; have hs := Lib.hid (hR : Below w4.heap.size w4.drew w6).size; clear hR hD; go_simp; exact hK.out _ _ (below_alloc' (Below.refl _ _) _) (Nat.le_refl _) (by simp) ⟨_, rfl, hs.out, alloc_at _ _⟩)); simp only [Act.put, List.setIfInBounds_toArray, List.set_cons_zero, List.set_cons_succ, Nat.reduceAdd, List.cons_append, List.nil_append])
  refine Pf.par_end fun w6 hR hp hap => ?_
  obtain ⟨⟨g, eg, hgs, hg⟩, _⟩ := hp 4 (by simp)
  obtain ⟨⟨h, eh, hhs, hh⟩, _⟩ := hp 5 (by simp)
  have hne : vals 4 ≠ vals 5 := hap 4 5 (by decide) rfl rfl
  rw [eg, eh] at hne
  have hgh : g ≠ h := fun e => hne (by rw [e])
  have hhg : h ≠ g := Ne.symm hgh
  simp only [eg, eh]
  have HB6 := Lib.hid ((Below.refl w4.heap.size w4).drew.trans hR)
  clear hp hap hR hne eg eh
  have g0 := cell_of_block hg 0 _ rfl
  have g1 := cell_of_block hg 1 _ rfl
  have gf := free_of_block hg
  have q0 := cell_of_block hh 0 _ rfl
  have q1 := cell_of_block hh 1 _ rfl
  have qf := free_of_block hh
  have HG := Lib.hid hg
  have HH := Lib.hid hh
  clear hg hh
  go_wp2_with fail
  have hW : Each5 a b c d w4 g h (((((w6.setCell ⟨g, 0, none⟩ (.int .i64 a)).setCell ⟨g, 1, none⟩ (.int .i64 b)).setCell ⟨h, 0, none⟩ (.int .i64 c)).setCell ⟨h, 1, none⟩ (.int .i64 d))) := by
    refine ⟨(((HB6.out.setCell hgs _).setCell hgs _).setCell hhs _).setCell hhs _, ?_, set2 (a := .int .i64 0) (b := .int .i64 0) _ _ ?_⟩
    · rw [Below.heap_setCell _ _ _ _ hgh, Below.heap_setCell _ _ _ _ hgh]
      exact set2 _ _ HG.out
    · rw [Below.heap_setCell _ _ _ _ hhg, Below.heap_setCell _ _ _ _ hhg]
      exact HH.out
  have hs4 := Z3.out
  have hlt4 : w3.heap.size < w4.heap.size := (Array.getElem?_eq_some_iff.1 hs4).1
  have hlt2 : w.heap.size + 1 + 1 < w3.heap.size := HS3.out
  have hgo : g ≠ w3.heap.size := by omega
  have hho : h ≠ w3.heap.size := by omega
  have hro : w.heap.size + 1 + 1 ≠ w3.heap.size := by omega
  have B0 := Lib.hid (below_call (H0.out) hW.1)
  have H0s : Hid (w.heap.size ≤ w3.heap.size) := Lib.hid (by omega)
  have G0 := Lib.hid hW.2.1
  have H0' := Lib.hid hW.2.2
  have O0 := Lib.hid (block_below Z3.out hW.1)
  have R0 := Lib.hid (block_below Z2.out hW.1)
  clear hW g0 g1 gf q0 q1 qf HG HH HB6 HF H0 Z0 Z1 Z2 Z3 hs4 hlt4 hlt2 hgh hhg hgs hhs
  generalize World.setCell (World.setCell (World.setCell (World.setCell w6 _ _) _ _) _ _) _ _ = v0 at B0 G0 H0' O0 R0 ⊢
  refine wp_loop_rounds 3 ?_
  rw [rounds_succ]
  go_wp2_with fail
  have hf0 : ∀ w6, Below v0.heap.size v0.drew w6 → Each2 a b c d g h w6 := fun w6 hb => by
    have hb' : Below v0.heap.size v0 w6 := (Below.refl v0.heap.size v0).drew.trans hb
    have k1 := block_below G0.out hb'
    have k2 := block_below H0'.out hb'
    exact ⟨cell_of_block k1 0 _ rfl, cell_of_block k1 1 _ rfl, cell_of_block k2 0 _ rfl, cell_of_block k2 1 _ rfl⟩
  have HF0 := Lib.hid hf0
  clear hf0
  refine' Par.wp_region_pars (fun w w' => Below w.heap.size w w') 13 (by kernel_rfl) (by kernel_rfl) (by kernel_rfl) (by kernel_rfl) (by kernel_rfl) (by kernel_rfl)
    (fun w => Below.refl _ w) (fun h k => below_call h k) (fun vals => ?_)
  rotate_left
  simp only [List.take_succ_cons, List.take_zero, List.drop_succ_cons, List.drop_zero]
  iterate 3 (apply Par.par_x rfl; (focus (intro w6 hR hD K hK; replace hK := Lib.hid hK; skip; clear hR hD; go_simp; exact hK.out _ (Below.refl _ _))); simp only [Act.put, List.setIfInBounds_toArray, List.set_cons_zero, List.set_cons_succ, Nat.reduceAdd, List.cons_append, List.nil_append])
  (apply Par.par_x rfl; (focus (intro w6 hR hD K hK; replace hK := Lib.hid hK; obtain ⟨e0, e1, e2, e3⟩ := HF0.out w6 hR; clear hR hD; go_simp; exact hK.out _ (Below.refl _ _))); simp only [Act.put, List.setIfInBounds_toArray, List.set_cons_zero, List.set_cons_succ, Nat.reduceAdd, List.cons_append, List.nil_append])
  iterate 2 (apply Par.par_x rfl; (focus (intro w6 hR hD K hK; replace hK := Lib.hid hK; skip; clear hR hD; go_simp; exact hK.out _ (Below.refl _ _))); simp only [Act.put, List.setIfInBounds_toArray, List.set_cons_zero, List.set_cons_succ, Nat.reduceAdd, List.cons_append, List.nil_append])
  (apply Par.par_x rfl; (focus (intro w6 hR hD K hK; replace hK := Lib.hid hK; obtain ⟨e0, e1, e2, e3⟩ := HF0.out w6 hR; clear hR hD; go_simp; exact hK.out _ (Below.refl _ _))); simp only [Act.put, List.setIfInBounds_toArray, List.set_cons_zero, List.set_cons_succ, Nat.reduceAdd, List.cons_append, List.nil_append])
  (apply Par.par_x rfl; (focus (intro w6 hR hD K hK; replace hK := Lib.hid hK; clear hR hD; go_simp; refine (add1_any a c (by omega) (by omega) (by omega) _).mono ?_; rintro e w7 ⟨rfl, rfl⟩; exact hK.out _ (Below.refl _ _))); simp only [Act.put, List.setIfInBounds_toArray, List.set_cons_zero, List.set_cons_succ, Nat.reduceAdd, List.cons_append, List.nil_append])
  iterate 5 (apply Par.par_x rfl; (focus (intro w6 hR hD K hK; replace hK := Lib.hid hK; skip; clear hR hD; go_simp; exact hK.out _ (Below.refl _ _))); simp only [Act.put, List.setIfInBounds_toArray, List.set_cons_zero, List.set_cons_succ, Nat.reduceAdd, List.cons_append, List.nil_append])
  refine Par.par_end fun x0 hR hp => ?_
  have hb : Below v0.heap.size v0 x0 := (Below.refl v0.heap.size v0).drew.trans hR
  have hz := block_below O0.out hb
  have j0 := cell_of_block hz 0 _ rfl
  have j1 := cell_of_block hz 1 _ rfl
  have jf := free_of_block hz
  have P0 := Lib.hid (And.intro (B0.out.trans (hb.mono B0.out.size)) (And.intro (block_below G0.out hb) (And.intro (block_below H0'.out hb) (And.intro hz (block_below R0.out hb)))))
  clear hb hp hR hz
  go_wp2_with fail
  clear j0 j1 jf
  have B1 := Lib.hid (P0.out.1.setCell (p := ⟨w3.heap.size, 0, none⟩) (by have := H0s.out; simpa using this) (.int .i64 ((a : Int) + c)))
  have G1 := Lib.hid (far_set (j := 0) (.int .i64 ((a : Int) + c)) P0.out.2.1 hgo)
  have H1 := Lib.hid (far_set (j := 0) (.int .i64 ((a : Int) + c)) P0.out.2.2.1 hho)
  have O1 := Lib.hid (set2a (.int .i64 ((a : Int) + c)) P0.out.2.2.2.1)
  have R1 := Lib.hid (far_set (j := 0) (.int .i64 ((a : Int) + c)) P0.out.2.2.2.2 hro)
  generalize World.setCell x0 _ _ = v1 at B1 G1 H1 O1 R1 ⊢
  rw [rounds_succ]
  go_wp2_with fail
  have hf1 : ∀ w6, Below v1.heap.size v1.drew w6 → Each2 a b c d g h w6 := fun w6 hb => by
    have hb' : Below v1.heap.size v1 w6 := (Below.refl v1.heap.size v1).drew.trans hb
    have k1 := block_below G1.out hb'
    have k2 := block_below H1.out hb'
    exact ⟨cell_of_block k1 0 _ rfl, cell_of_block k1 1 _ rfl, cell_of_block k2 0 _ rfl, cell_of_block k2 1 _ rfl⟩
  have HF1 := Lib.hid hf1
  clear hf1
  refine' Par.wp_region_pars (fun w w' => Below w.heap.size w w') 13 (by kernel_rfl) (by kernel_rfl) (by kernel_rfl) (by kernel_rfl) (by kernel_rfl) (by kernel_rfl)
    (fun w => Below.refl _ w) (fun h k => below_call h k) (fun vals => ?_)
  rotate_left
  simp only [List.take_succ_cons, List.take_zero, List.drop_succ_cons, List.drop_zero]
  iterate 3 (apply Par.par_x rfl; (focus (intro w6 hR hD K hK; replace hK := Lib.hid hK; skip; clear hR hD; go_simp; exact hK.out _ (Below.refl _ _))); simp only [Act.put, List.setIfInBounds_toArray, List.set_cons_zero, List.set_cons_succ, Nat.reduceAdd, List.cons_append, List.nil_append])
  (apply Par.par_x rfl; (focus (intro w6 hR hD K hK; replace hK := Lib.hid hK; obtain ⟨e0, e1, e2, e3⟩ := HF1.out w6 hR; clear hR hD; go_simp; exact hK.out _ (Below.refl _ _))); simp only [Act.put, List.setIfInBounds_toArray, List.set_cons_zero, List.set_cons_succ, Nat.reduceAdd, List.cons_append, List.nil_append])
  iterate 2 (apply Par.par_x rfl; (focus (intro w6 hR hD K hK; replace hK := Lib.hid hK; skip; clear hR hD; go_simp; exact hK.out _ (Below.refl _ _))); simp only [Act.put, List.setIfInBounds_toArray, List.set_cons_zero, List.set_cons_succ, Nat.reduceAdd, List.cons_append, List.nil_append])
  (apply Par.par_x rfl; (focus (intro w6 hR hD K hK; replace hK := Lib.hid hK; obtain ⟨e0, e1, e2, e3⟩ := HF1.out w6 hR; clear hR hD; go_simp; exact hK.out _ (Below.refl _ _))); simp only [Act.put, List.setIfInBounds_toArray, List.set_cons_zero, List.set_cons_succ, Nat.reduceAdd, List.cons_append, List.nil_append])
  (apply Par.par_x rfl; (focus (intro w6 hR hD K hK; replace hK := Lib.hid hK; clear hR hD; go_simp; refine (add1_any b d (by omega) (by omega) (by omega) _).mono ?_; rintro e w7 ⟨rfl, rfl⟩; exact hK.out _ (Below.refl _ _))); simp only [Act.put, List.setIfInBounds_toArray, List.set_cons_zero, List.set_cons_succ, Nat.reduceAdd, List.cons_append, List.nil_append])
  iterate 5 (apply Par.par_x rfl; (focus (intro w6 hR hD K hK; replace hK := Lib.hid hK; skip; clear hR hD; go_simp; exact hK.out _ (Below.refl _ _))); simp only [Act.put, List.setIfInBounds_toArray, List.set_cons_zero, List.set_cons_succ, Nat.reduceAdd, List.cons_append, List.nil_append])
  refine Par.par_end fun x1 hR hp => ?_
  have hb : Below v1.heap.size v1 x1 := (Below.refl v1.heap.size v1).drew.trans hR
  have hz := block_below O1.out hb
  have j0 := cell_of_block hz 0 _ rfl
  have j1 := cell_of_block hz 1 _ rfl
  have jf := free_of_block hz
  have P1 := Lib.hid (And.intro (B1.out.trans (hb.mono B1.out.size)) (And.intro (block_below G1.out hb) (And.intro (block_below H1.out hb) (And.intro hz (block_below R1.out hb)))))
  clear hb hp hR hz
  go_wp2_with fail
  clear j0 j1 jf
  have B2 := Lib.hid (P1.out.1.setCell (p := ⟨w3.heap.size, 1, none⟩) (by have := H0s.out; simpa using this) (.int .i64 ((b : Int) + d)))
  have G2 := Lib.hid (far_set (j := 1) (.int .i64 ((b : Int) + d)) P1.out.2.1 hgo)
  have H2 := Lib.hid (far_set (j := 1) (.int .i64 ((b : Int) + d)) P1.out.2.2.1 hho)
  have O2 := Lib.hid (set2b (.int .i64 ((b : Int) + d)) P1.out.2.2.2.1)
  have R2 := Lib.hid (far_set (j := 1) (.int .i64 ((b : Int) + d)) P1.out.2.2.2.2 hro)
  generalize World.setCell x1 _ _ = v2 at B2 G2 H2 O2 R2 ⊢
  rw [rounds_succ]
  have j0 := cell_of_block O2.out 0 _ rfl
  have j1 := cell_of_block O2.out 1 _ rfl
  go_wp2_with fail
  refine (whole_any _ _ _).mono ?_
  rintro e y ⟨rfl, hb⟩
  have hr := block_below R2.out hb
  have k0 := cell_of_block hr 0 _ rfl
  have k1 := cell_of_block hr 1 _ rfl
  have kf := free_of_block hr
  have HB := Lib.hid (below_call B2.out hb)
  have HR := Lib.hid hr
  clear hb hr j0 j1
  go_wp2
  have hq := set2 (.int .i64 ((a : Int) + c)) (.int .i64 ((b : Int) + d)) HR.out
  have hbq := (HB.out.setCell (p := ⟨w.heap.size + 1 + 1, 0, none⟩) (by simp; omega) (.int .i64 ((a : Int) + c))).setCell (p := ⟨w.heap.size + 1 + 1, 1, none⟩) (by simp; omega) (.int .i64 ((b : Int) + d))
  generalize World.setCell (World.setCell y _ _) _ _ = y2 at hq hbq ⊢
  have q0 := cell_of_block hq 0 _ rfl
  have q1 := cell_of_block hq 1 _ rfl
  refine bodyPost_ret (v := .tuple #[.agg #[.int .i64 ((a : Int) + c), .int .i64 ((b : Int) + d)], .int .i64 0]) (by simp [results, Tryz.results129, go_sem, q0, q1]) rfl ⟨?_, hbq⟩
  rw [HC.out.1, HC.out.2]
set_option maxRecDepth 100000 in
theorem add_is (a b c d : Nat) (h1 : a + c ≤ 4611686018427387904) (h2 : b + d ≤ 4611686018427387904) (w : World) : Calls Tryz.prog 103 #[.agg #[.int .i64 a, .int .i64 b], .agg #[.int .i64 c, .int .i64 d]] w fun e w' => e = .returned (.tuple #[.agg #[.int .i64 (a + c : Nat), .int .i64 (b + d : Nat)], .int .i64 0]) ∧ Below w.heap.size w w' := by
  go_enter Tryz.func103, Tryz.ntmps103
  go_wp2_with fail
  have hb0 : Below w.heap.size w (((w.alloc (.cells #[.int .i64 a, .int .i64 b] 58)).alloc (.cells #[.int .i64 c, .int .i64 d] 58)).alloc (.cells #[.int .i64 0, .int .i64 0] 58)) := below_alloc' (below_alloc' (below_alloc' (Below.refl _ _) _) _) _
  have z2 := alloc_second (w.alloc (.cells #[.int .i64 a, .int .i64 b] 58)) (.cells #[.int .i64 c, .int .i64 d] 58) (.cells #[.int .i64 0, .int .i64 0] 58)
  rw [World.size_alloc] at z2
  generalize World.alloc (World.alloc (World.alloc w _) _) _ = w1 at hb0 z2 ⊢
  refine (each_add a b c d h1 h2 _).mono ?_
  rintro e w2 ⟨rfl, hb⟩
  have hr := block_below z2 hb
  have k0 := cell_of_block hr 0 _ rfl
  have k1 := cell_of_block hr 1 _ rfl
  have kf := free_of_block hr
  have HB := Lib.hid (below_call hb0 hb)
  have HR := Lib.hid hr
  clear hb hr hb0 z2
  go_wp2
  have hq := set2 (.int .i64 ((a : Int) + c)) (.int .i64 ((b : Int) + d)) HR.out
  have hbq := (HB.out.setCell (p := ⟨w.heap.size + 1 + 1, 0, none⟩) (by simp; omega) (.int .i64 ((a : Int) + c))).setCell (p := ⟨w.heap.size + 1 + 1, 1, none⟩) (by simp; omega) (.int .i64 ((b : Int) + d))
  generalize World.setCell (World.setCell w2 _ _) _ _ = y2 at hq hbq ⊢
  have q0 := cell_of_block hq 0 _ rfl
  have q1 := cell_of_block hq 1 _ rfl
  exact bodyPost_ret (v := .tuple #[.agg #[.int .i64 ((a : Int) + c), .int .i64 ((b : Int) + d)], .int .i64 0]) (by simp [results, Tryz.results103, go_sem, q0, q1]) rfl ⟨by simp, hbq⟩
end Go.Proofs.YtofofjfmhaggmaaGreatDoor
