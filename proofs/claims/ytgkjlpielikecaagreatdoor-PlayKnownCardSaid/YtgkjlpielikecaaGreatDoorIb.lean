/- A participant started: the walk of Cell.start on an empty tape. -/
import Derived.Test.YtgkjlpielikecaaGreatDoorIa
set_option linter.unusedVariables false
set_option linter.unusedSimpArgs false
namespace Go.Proofs.YtgkjlpielikecaaGreatDoor
open Go.RowKit

/-- A cell's own blocks: its struct at c, its participants at wa. -/
def CellB (w : World) (c wa p n : Nat) (mode : Int) (u : Value) (ws : List Value) : Prop :=
  w.heap[c]? = some (.cells #[.int .i64 mode, u, .slice (some ⟨wa, 0, none⟩) (n + 1) (n + 1), .pointer (some ⟨p, 0, none⟩)] 83 (0, 0)) ∧ w.heap[wa]? = some (.cells ws.toArray 133 (0, 0)) ∧ ws.length = n + 1
theorem CellB.below {w w' : World} {c wa p n : Nat} {mode : Int} {u : Value} {ws : List Value} (h : CellB w c wa p n mode u ws) (hb : Below w.heap.size w w') : CellB w' c wa p n mode u ws :=
  ⟨block_below h.1 hb, block_below h.2.1 hb, h.2.2⟩

set_option maxHeartbeats 4000000 in
set_option maxRecDepth 100000 in
theorem start_coord (w : World) (c wa p n : Nat) (hn : n ≤ 4) (mode : Int) (ta m cu t : Nat) (ws : List Value) (h : CellB w c wa p n mode (.slice (some ⟨ta, 0, none⟩) (m + 1) cu) ws)
    (ht0 : w.cell? ⟨ta, 0, none⟩ = some (.pointer (some ⟨t, 0, none⟩))) (hta : ta < w.heap.size) (ht : TapeE w t) :
    Calls Tryz.prog 41 #[.pointer (some ⟨c, 0, none⟩), .int .i64 0] w fun e w' => ∃ o w1, e = .returned (.tuple #[]) ∧ w.heap.size ≤ o ∧ CoordE w1 o n t ∧ Below w.heap.size w w1 ∧ w' = w1.setCell ⟨wa, 0, none⟩ (.iface 130 (.pointer (some ⟨o, 0, none⟩))) := by
  go_enter Tryz.func41, Tryz.ntmps41
  have HH := Lib.hid h
  have hfacts : ∀ w6, Below w.heap.size w.drew w6 → w6.cell? ⟨c, 0, none⟩ = some (.int .i64 mode) ∧ w6.cell? ⟨c, 1, none⟩ = some (.slice (some ⟨ta, 0, none⟩) (m + 1) cu) ∧ w6.cell? ⟨c, 2, none⟩ = some (.slice (some ⟨wa, 0, none⟩) (n + 1) (n + 1)) ∧ w6.cell? ⟨ta, 0, none⟩ = some (.pointer (some ⟨t, 0, none⟩)) ∧ TapeE w6 t := fun w6 hb => by
    have hb' : Below w.heap.size w w6 := (Below.refl w.heap.size w).drew.trans hb
    have k := (h.below hb').1
    exact ⟨cell_of_block k 0 _ rfl, cell_of_block k 1 _ rfl, cell_of_block k 2 _ rfl, cell_below ht0 hb', ht.below hb'⟩
  have HF := Lib.hid hfacts
  have hn1 : ((n + 1 : Nat) : Int) - 1 = n := by omega
  have hn2 : IntKind.i64.wrap (n : Int) = n := IntWalk.i64_in _ (by omega)
  clear hfacts h ht0 ht
  go_upto_region 1 with fail
  refine' Par.wp_region_pars (fun w w' => Below w.heap.size w w') 21 (by kernel_rfl) (by kernel_rfl) (by kernel_rfl) (by kernel_rfl) (by kernel_rfl) (by kernel_rfl)
    (fun w => Below.refl _ w) (fun h k => below_call h k) (fun vals => ?_)
  rotate_left
  simp only [List.take_succ_cons, List.take_zero, List.drop_succ_cons, List.drop_zero]
  (apply Par.par_x rfl; (focus (intro w6 hR hD K hK; replace hK := Lib.hid hK; skip; clear hR hD; go_simp; exact hK.out _ (Below.refl _ _))); simp only [Act.put, List.setIfInBounds_toArray, List.set_cons_zero, List.set_cons_succ, Nat.reduceAdd, List.cons_append, List.nil_append])
  (apply Par.par_x rfl; (focus (intro w6 hR hD K hK; replace hK := Lib.hid hK; skip; clear hR hD; go_simp; exact hK.out _ (Below.refl _ _))); simp only [Act.put, List.setIfInBounds_toArray, List.set_cons_zero, List.set_cons_succ, Nat.reduceAdd, List.cons_append, List.nil_append])
  (apply Par.par_x rfl; (focus (intro w6 hR hD K hK; replace hK := Lib.hid hK; skip; clear hR hD; go_simp; exact hK.out _ (Below.refl _ _))); simp only [Act.put, List.setIfInBounds_toArray, List.set_cons_zero, List.set_cons_succ, Nat.reduceAdd, List.cons_append, List.nil_append])
  (apply Par.par_x rfl; (focus (intro w6 hR hD K hK; replace hK := Lib.hid hK; obtain ⟨e0, e1, e2, e3, _⟩ := HF.out w6 hR; clear hR hD; go_simp; exact hK.out _ (Below.refl _ _))); simp only [Act.put, List.setIfInBounds_toArray, List.set_cons_zero, List.set_cons_succ, Nat.reduceAdd, List.cons_append, List.nil_append])
  (apply Par.par_x rfl; (focus (intro w6 hR hD K hK; replace hK := Lib.hid hK; skip; clear hR hD; go_simp; exact hK.out _ (Below.refl _ _))); simp only [Act.put, List.setIfInBounds_toArray, List.set_cons_zero, List.set_cons_succ, Nat.reduceAdd, List.cons_append, List.nil_append])
  (apply Par.par_x rfl; (focus (intro w6 hR hD K hK; replace hK := Lib.hid hK; skip; clear hR hD; go_simp; exact hK.out _ (Below.refl _ _))); simp only [Act.put, List.setIfInBounds_toArray, List.set_cons_zero, List.set_cons_succ, Nat.reduceAdd, List.cons_append, List.nil_append])
  (apply Par.par_x rfl; (focus (intro w6 hR hD K hK; replace hK := Lib.hid hK; skip; clear hR hD; go_simp; exact hK.out _ (Below.refl _ _))); simp only [Act.put, List.setIfInBounds_toArray, List.set_cons_zero, List.set_cons_succ, Nat.reduceAdd, List.cons_append, List.nil_append])
  (apply Par.par_x rfl; (focus (intro w6 hR hD K hK; replace hK := Lib.hid hK; skip; clear hR hD; go_simp; exact hK.out _ (Below.refl _ _))); simp only [Act.put, List.setIfInBounds_toArray, List.set_cons_zero, List.set_cons_succ, Nat.reduceAdd, List.cons_append, List.nil_append])
  (apply Par.par_x rfl; (focus (intro w6 hR hD K hK; replace hK := Lib.hid hK; obtain ⟨e0, e1, e2, e3, _⟩ := HF.out w6 hR; clear hR hD; go_simp; exact hK.out _ (Below.refl _ _))); simp only [Act.put, List.setIfInBounds_toArray, List.set_cons_zero, List.set_cons_succ, Nat.reduceAdd, List.cons_append, List.nil_append])
  (apply Par.par_x rfl; (focus (intro w6 hR hD K hK; replace hK := Lib.hid hK; skip; clear hR hD; go_simp; exact hK.out _ (Below.refl _ _))); simp only [Act.put, List.setIfInBounds_toArray, List.set_cons_zero, List.set_cons_succ, Nat.reduceAdd, List.cons_append, List.nil_append])
  (apply Par.par_x rfl; (focus (intro w6 hR hD K hK; replace hK := Lib.hid hK; skip; clear hR hD; go_simp; exact hK.out _ (Below.refl _ _))); simp only [Act.put, List.setIfInBounds_toArray, List.set_cons_zero, List.set_cons_succ, Nat.reduceAdd, List.cons_append, List.nil_append])
  (apply Par.par_x rfl; (focus (intro w6 hR hD K hK; replace hK := Lib.hid hK; skip; clear hR hD; go_simp; exact hK.out _ (Below.refl _ _))); simp only [Act.put, List.setIfInBounds_toArray, List.set_cons_zero, List.set_cons_succ, Nat.reduceAdd, List.cons_append, List.nil_append])
  (apply Par.par_x rfl; (focus (intro w6 hR hD K hK; replace hK := Lib.hid hK; skip; clear hR hD; go_simp; exact hK.out _ (Below.refl _ _))); simp only [Act.put, List.setIfInBounds_toArray, List.set_cons_zero, List.set_cons_succ, Nat.reduceAdd, List.cons_append, List.nil_append])
  (apply Par.par_x rfl; (focus (intro w6 hR hD K hK; replace hK := Lib.hid hK; skip; clear hR hD; go_simp; exact hK.out _ (Below.refl _ _))); simp only [Act.put, List.setIfInBounds_toArray, List.set_cons_zero, List.set_cons_succ, Nat.reduceAdd, List.cons_append, List.nil_append])
  (apply Par.par_x rfl; (focus (intro w6 hR hD K hK; replace hK := Lib.hid hK; obtain ⟨e0, e1, e2, e3, _⟩ := HF.out w6 hR; clear hR hD; go_simp; exact hK.out _ (Below.refl _ _))); simp only [Act.put, List.setIfInBounds_toArray, List.set_cons_zero, List.set_cons_succ, Nat.reduceAdd, List.cons_append, List.nil_append])
  (apply Par.par_x rfl; (focus (intro w6 hR hD K hK; replace hK := Lib.hid hK; skip; clear hR hD; go_simp; exact hK.out _ (Below.refl _ _))); simp only [Act.put, List.setIfInBounds_toArray, List.set_cons_zero, List.set_cons_succ, Nat.reduceAdd, List.cons_append, List.nil_append])
  (apply Par.par_x rfl; (focus (intro w6 hR hD K hK; replace hK := Lib.hid hK; skip; clear hR hD; go_simp; exact hK.out _ (Below.refl _ _))); simp only [Act.put, List.setIfInBounds_toArray, List.set_cons_zero, List.set_cons_succ, Nat.reduceAdd, List.cons_append, List.nil_append])
  (apply Par.par_x rfl; (focus (intro w6 hR hD K hK; replace hK := Lib.hid hK; obtain ⟨e0, e1, e2, e3, _⟩ := HF.out w6 hR; clear hR hD; go_simp; exact hK.out _ (Below.refl _ _))); simp only [Act.put, List.setIfInBounds_toArray, List.set_cons_zero, List.set_cons_succ, Nat.reduceAdd, List.cons_append, List.nil_append])
  (apply Par.par_r (fun v w' => ∃ o, v = .pointer (some ⟨o, 0, none⟩) ∧ w.heap.size ≤ o ∧ CoordE w' o n t) rfl (fun v w1 w2 h k => by obtain ⟨o, h1, h2, h3⟩ := h; exact ⟨o, h1, h2, h3.below k⟩); (focus (intro w6 hR hD K hK; replace hK := Lib.hid hK; obtain ⟨e0, e1, e2, e3, e4⟩ := HF.out w6 hR; have hs := Lib.hid (hR : Below w.heap.size w.drew w6).size; clear hR hD e0 e1 e2 e3; go_simp; refine (coord_new n w6 t e4).mono ?_; rintro e w7 ⟨o, rfl, ho, hc, hb⟩; exact hK.out _ _ hb ⟨o, rfl, Nat.le_trans hs.out ho, hc⟩)); simp only [Act.put, List.setIfInBounds_toArray, List.set_cons_zero, List.set_cons_succ, Nat.reduceAdd, List.cons_append, List.nil_append])
  (apply Par.par_r (fun v w' => ∃ o, v = .iface 130 (.pointer (some ⟨o, 0, none⟩)) ∧ w.heap.size ≤ o ∧ CoordE w' o n t) rfl (fun v w1 w2 h k => by obtain ⟨o, h1, h2, h3⟩ := h; exact ⟨o, h1, h2, h3.below k⟩); (focus (intro w6 hR hD K hK; replace hK := Lib.hid hK; obtain ⟨o, h1, h2, h3⟩ : ∃ o, vals 18 = .pointer (some ⟨o, 0, none⟩) ∧ w.heap.size ≤ o ∧ CoordE w6 o n t := hD 18 (by kernel_rfl); simp only [h1] at hK ⊢; replace h2 := Lib.hid h2; replace h3 := Lib.hid h3; clear hR hD h1; go_simp; exact hK.out _ _ (Below.refl _ _) ⟨o, rfl, h2.out, h3.out⟩)); simp only [Act.put, List.setIfInBounds_toArray, List.set_cons_zero, List.set_cons_succ, Nat.reduceAdd, List.cons_append, List.nil_append])
  (apply Par.par_x rfl; (focus (intro w6 hR hD K hK; replace hK := Lib.hid hK; skip; clear hR hD; go_simp; exact hK.out _ (Below.refl _ _))); simp only [Act.put, List.setIfInBounds_toArray, List.set_cons_zero, List.set_cons_succ, Nat.reduceAdd, List.cons_append, List.nil_append])
  refine Par.par_end fun w6 hR hp => ?_
  obtain ⟨o, ho, hos, hoc⟩ : ∃ o, vals 19 = .iface 130 (.pointer (some ⟨o, 0, none⟩)) ∧ w.heap.size ≤ o ∧ CoordE w6 o n t := hp 19 (by simp)
  have hb6 : Below w.heap.size w w6 := (Below.refl w.heap.size w).drew.trans hR
  have hk := HH.out.below hb6
  obtain ⟨v0, wr, rfl⟩ : ∃ v r, ws = v :: r := by
    cases ws with
    | nil => exact absurd hk.2.2 (by simp)
    | cons v r => exact ⟨v, r, rfl⟩
  have c0 := cell_of_block hk.2.1 0 v0 (by simp)
  have fr := free_of_block hk.2.1 0
  clear hp hk
  simp only [ho]
  have HB6 := Lib.hid hb6
  have HOC := Lib.hid hoc
  clear hb6 hoc hR
  go_wp2
  go_end0
  exact ⟨o, w6, rfl, hos, HOC.out, HB6.out, rfl⟩

set_option maxHeartbeats 4000000 in
set_option maxRecDepth 100000 in
theorem start_shard (w : World) (c wa p n i : Nat) (hn : n ≤ 4) (hi0 : 1 ≤ i) (hin : i ≤ n) (mode : Int) (ta cu t : Nat) (ws : List Value) (h : CellB w c wa p n mode (.slice (some ⟨ta, 0, none⟩) (i + 1) cu) ws)
    (ht0 : w.cell? ⟨ta, i, none⟩ = some (.pointer (some ⟨t, 0, none⟩))) (ht : TapeE w t) :
    Calls Tryz.prog 41 #[.pointer (some ⟨c, 0, none⟩), .int .i64 i] w fun e w' => ∃ o w1, e = .returned (.tuple #[]) ∧ w.heap.size ≤ o ∧ ShardE w1 o i mode t ∧ Below w.heap.size w w1 ∧ w' = w1.setCell ⟨wa, i, none⟩ (.iface 134 (.pointer (some ⟨o, 0, none⟩))) := by
  go_enter Tryz.func41, Tryz.ntmps41
  have HH := Lib.hid h
  have hfacts : ∀ w6, Below w.heap.size w.drew w6 → w6.cell? ⟨c, 0, none⟩ = some (.int .i64 mode) ∧ w6.cell? ⟨c, 1, none⟩ = some (.slice (some ⟨ta, 0, none⟩) (i + 1) cu) ∧ w6.cell? ⟨c, 2, none⟩ = some (.slice (some ⟨wa, 0, none⟩) (n + 1) (n + 1)) ∧ w6.cell? ⟨ta, i, none⟩ = some (.pointer (some ⟨t, 0, none⟩)) ∧ TapeE w6 t := fun w6 hb => by
    have hb' : Below w.heap.size w w6 := (Below.refl w.heap.size w).drew.trans hb
    have k := (h.below hb').1
    exact ⟨cell_of_block k 0 _ rfl, cell_of_block k 1 _ rfl, cell_of_block k 2 _ rfl, cell_below ht0 hb', ht.below hb'⟩
  have HF := Lib.hid hfacts
  have hi1 : ¬ (i : Int) = 0 := by omega
  have hi2 : ((i : Int) == 0) = false := beq_eq_false_iff_ne.2 hi1
  have hi3 : (i : Int) < (i : Int) + 1 := by omega
  have hi4 : (i : Int) < (n : Int) + 1 := by omega
  have hi5 : (0 : Int) ≤ i := by omega
  clear hfacts h ht0 ht
  go_upto_region 2 with fail
  refine' Par.wp_region_pars (fun w w' => Below w.heap.size w w') 20 (by kernel_rfl) (by kernel_rfl) (by kernel_rfl) (by kernel_rfl) (by kernel_rfl) (by kernel_rfl)
    (fun w => Below.refl _ w) (fun h k => below_call h k) (fun vals => ?_)
  rotate_left
  simp only [List.take_succ_cons, List.take_zero, List.drop_succ_cons, List.drop_zero]
  (apply Par.par_x rfl; (focus (intro w6 hR hD K hK; replace hK := Lib.hid hK; skip; clear hR hD; go_simp; exact hK.out _ (Below.refl _ _))); simp only [Act.put, List.setIfInBounds_toArray, List.set_cons_zero, List.set_cons_succ, Nat.reduceAdd, List.cons_append, List.nil_append])
  (apply Par.par_x rfl; (focus (intro w6 hR hD K hK; replace hK := Lib.hid hK; skip; clear hR hD; go_simp; exact hK.out _ (Below.refl _ _))); simp only [Act.put, List.setIfInBounds_toArray, List.set_cons_zero, List.set_cons_succ, Nat.reduceAdd, List.cons_append, List.nil_append])
  (apply Par.par_x rfl; (focus (intro w6 hR hD K hK; replace hK := Lib.hid hK; skip; clear hR hD; go_simp; exact hK.out _ (Below.refl _ _))); simp only [Act.put, List.setIfInBounds_toArray, List.set_cons_zero, List.set_cons_succ, Nat.reduceAdd, List.cons_append, List.nil_append])
  (apply Par.par_x rfl; (focus (intro w6 hR hD K hK; replace hK := Lib.hid hK; obtain ⟨e0, e1, e2, e3, _⟩ := HF.out w6 hR; clear hR hD; go_simp; exact hK.out _ (Below.refl _ _))); simp only [Act.put, List.setIfInBounds_toArray, List.set_cons_zero, List.set_cons_succ, Nat.reduceAdd, List.cons_append, List.nil_append])
  (apply Par.par_x rfl; (focus (intro w6 hR hD K hK; replace hK := Lib.hid hK; skip; clear hR hD; go_simp; exact hK.out _ (Below.refl _ _))); simp only [Act.put, List.setIfInBounds_toArray, List.set_cons_zero, List.set_cons_succ, Nat.reduceAdd, List.cons_append, List.nil_append])
  (apply Par.par_x rfl; (focus (intro w6 hR hD K hK; replace hK := Lib.hid hK; skip; clear hR hD; go_simp; exact hK.out _ (Below.refl _ _))); simp only [Act.put, List.setIfInBounds_toArray, List.set_cons_zero, List.set_cons_succ, Nat.reduceAdd, List.cons_append, List.nil_append])
  (apply Par.par_x rfl; (focus (intro w6 hR hD K hK; replace hK := Lib.hid hK; skip; clear hR hD; go_simp; exact hK.out _ (Below.refl _ _))); simp only [Act.put, List.setIfInBounds_toArray, List.set_cons_zero, List.set_cons_succ, Nat.reduceAdd, List.cons_append, List.nil_append])
  (apply Par.par_x rfl; (focus (intro w6 hR hD K hK; replace hK := Lib.hid hK; skip; clear hR hD; go_simp; exact hK.out _ (Below.refl _ _))); simp only [Act.put, List.setIfInBounds_toArray, List.set_cons_zero, List.set_cons_succ, Nat.reduceAdd, List.cons_append, List.nil_append])
  (apply Par.par_x rfl; (focus (intro w6 hR hD K hK; replace hK := Lib.hid hK; skip; clear hR hD; go_simp; exact hK.out _ (Below.refl _ _))); simp only [Act.put, List.setIfInBounds_toArray, List.set_cons_zero, List.set_cons_succ, Nat.reduceAdd, List.cons_append, List.nil_append])
  (apply Par.par_x rfl; (focus (intro w6 hR hD K hK; replace hK := Lib.hid hK; obtain ⟨e0, e1, e2, e3, _⟩ := HF.out w6 hR; clear hR hD; go_simp; exact hK.out _ (Below.refl _ _))); simp only [Act.put, List.setIfInBounds_toArray, List.set_cons_zero, List.set_cons_succ, Nat.reduceAdd, List.cons_append, List.nil_append])
  (apply Par.par_x rfl; (focus (intro w6 hR hD K hK; replace hK := Lib.hid hK; skip; clear hR hD; go_simp; exact hK.out _ (Below.refl _ _))); simp only [Act.put, List.setIfInBounds_toArray, List.set_cons_zero, List.set_cons_succ, Nat.reduceAdd, List.cons_append, List.nil_append])
  (apply Par.par_x rfl; (focus (intro w6 hR hD K hK; replace hK := Lib.hid hK; skip; clear hR hD; go_simp; exact hK.out _ (Below.refl _ _))); simp only [Act.put, List.setIfInBounds_toArray, List.set_cons_zero, List.set_cons_succ, Nat.reduceAdd, List.cons_append, List.nil_append])
  (apply Par.par_x rfl; (focus (intro w6 hR hD K hK; replace hK := Lib.hid hK; skip; clear hR hD; go_simp; exact hK.out _ (Below.refl _ _))); simp only [Act.put, List.setIfInBounds_toArray, List.set_cons_zero, List.set_cons_succ, Nat.reduceAdd, List.cons_append, List.nil_append])
  (apply Par.par_x rfl; (focus (intro w6 hR hD K hK; replace hK := Lib.hid hK; obtain ⟨e0, e1, e2, e3, _⟩ := HF.out w6 hR; clear hR hD; go_simp; exact hK.out _ (Below.refl _ _))); simp only [Act.put, List.setIfInBounds_toArray, List.set_cons_zero, List.set_cons_succ, Nat.reduceAdd, List.cons_append, List.nil_append])
  (apply Par.par_x rfl; (focus (intro w6 hR hD K hK; replace hK := Lib.hid hK; skip; clear hR hD; go_simp; exact hK.out _ (Below.refl _ _))); simp only [Act.put, List.setIfInBounds_toArray, List.set_cons_zero, List.set_cons_succ, Nat.reduceAdd, List.cons_append, List.nil_append])
  (apply Par.par_x rfl; (focus (intro w6 hR hD K hK; replace hK := Lib.hid hK; skip; clear hR hD; go_simp; exact hK.out _ (Below.refl _ _))); simp only [Act.put, List.setIfInBounds_toArray, List.set_cons_zero, List.set_cons_succ, Nat.reduceAdd, List.cons_append, List.nil_append])
  (apply Par.par_x rfl; (focus (intro w6 hR hD K hK; replace hK := Lib.hid hK; obtain ⟨e0, e1, e2, e3, _⟩ := HF.out w6 hR; clear hR hD; go_simp; exact hK.out _ (Below.refl _ _))); simp only [Act.put, List.setIfInBounds_toArray, List.set_cons_zero, List.set_cons_succ, Nat.reduceAdd, List.cons_append, List.nil_append])
  (apply Par.par_r (fun v w' => ∃ o, v = .pointer (some ⟨o, 0, none⟩) ∧ w.heap.size ≤ o ∧ ShardE w' o i mode t) rfl (fun v w1 w2 h k => by obtain ⟨o, h1, h2, h3⟩ := h; exact ⟨o, h1, h2, h3.below k⟩); (focus (intro w6 hR hD K hK; replace hK := Lib.hid hK; obtain ⟨e0, e1, e2, e3, e4⟩ := HF.out w6 hR; have hs := Lib.hid (hR : Below w.heap.size w.drew w6).size; clear hR hD e0 e1 e2 e3; go_simp; refine (shard_new i mode w6 t e4).mono ?_; rintro e w7 ⟨o, rfl, ho, hc, hb⟩; exact hK.out _ _ hb ⟨o, rfl, Nat.le_trans hs.out ho, hc⟩)); simp only [Act.put, List.setIfInBounds_toArray, List.set_cons_zero, List.set_cons_succ, Nat.reduceAdd, List.cons_append, List.nil_append])
  (apply Par.par_r (fun v w' => ∃ o, v = .iface 134 (.pointer (some ⟨o, 0, none⟩)) ∧ w.heap.size ≤ o ∧ ShardE w' o i mode t) rfl (fun v w1 w2 h k => by obtain ⟨o, h1, h2, h3⟩ := h; exact ⟨o, h1, h2, h3.below k⟩); (focus (intro w6 hR hD K hK; replace hK := Lib.hid hK; obtain ⟨o, h1, h2, h3⟩ : ∃ o, vals 17 = .pointer (some ⟨o, 0, none⟩) ∧ w.heap.size ≤ o ∧ ShardE w6 o i mode t := hD 17 (by kernel_rfl); simp only [h1] at hK ⊢; replace h2 := Lib.hid h2; replace h3 := Lib.hid h3; clear hR hD h1; go_simp; exact hK.out _ _ (Below.refl _ _) ⟨o, rfl, h2.out, h3.out⟩)); simp only [Act.put, List.setIfInBounds_toArray, List.set_cons_zero, List.set_cons_succ, Nat.reduceAdd, List.cons_append, List.nil_append])
  (apply Par.par_x rfl; (focus (intro w6 hR hD K hK; replace hK := Lib.hid hK; skip; clear hR hD; go_simp; exact hK.out _ (Below.refl _ _))); simp only [Act.put, List.setIfInBounds_toArray, List.set_cons_zero, List.set_cons_succ, Nat.reduceAdd, List.cons_append, List.nil_append])
  refine Par.par_end fun w6 hR hp => ?_
  obtain ⟨o, ho, hos, hoc⟩ : ∃ o, vals 18 = .iface 134 (.pointer (some ⟨o, 0, none⟩)) ∧ w.heap.size ≤ o ∧ ShardE w6 o i mode t := hp 18 (by simp)
  have hb6 : Below w.heap.size w w6 := (Below.refl w.heap.size w).drew.trans hR
  have hk := HH.out.below hb6
  obtain ⟨v0, c0⟩ : ∃ v0, w6.cell? ⟨wa, i, none⟩ = some v0 := ⟨_, cell_of_block hk.2.1 i (ws[i]'(by rw [hk.2.2]; omega)) (by simp)⟩
  have fr := free_of_block hk.2.1 i
  clear hp hk
  simp only [ho]
  have HB6 := Lib.hid hb6
  have HOC := Lib.hid hoc
  clear hb6 hoc hR
  go_wp2
  go_end0
  exact ⟨o, w6, rfl, hos, HOC.out, HB6.out, rfl⟩
end Go.Proofs.YtgkjlpielikecaaGreatDoor
