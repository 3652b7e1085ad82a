/- Contracts of within, three and known, for every input in the ranges that each theorem names. -/
import Derived.Test.YtpndngcopfpdgaaDoorA
set_option linter.unusedVariables false
set_option linter.unusedSimpArgs false
namespace Go.Proofs.YtpndngcopfpdgaaDoor
open Go.RowKit

theorem wid {x : Int} (h1 : -9223372036854775808 ≤ x) (h2 : x < 9223372036854775808) : wrap64 x = x := by unfold wrap64; omega

theorem within_any (a m : Int) (hm : 0 < m) (hb : m ≤ 4611686018427387904) (w : World) : Calls Tryd.prog 9 #[.int .i64 a, .int .i64 m] w fun e w' => e = .returned (.int .i64 (a % m)) ∧ w = w' := by
  have t1 := Int.tmod_lt_of_pos a hm
  have t2 := Int.lt_tmod_of_pos a hm
  have hz : (m == 0) = false := beq_eq_false_iff_ne.mpr (by omega)
  have em : Hid (a % m = if a.tmod m < 0 then a.tmod m + m else a.tmod m) := by
    unfold Hid
    have e1 : a % m = (a.tmod m) % m := by
      have := Int.mul_tdiv_add_tmod a m
      calc a % m = (m * a.tdiv m + a.tmod m) % m := by rw [this]
        _ = (a.tmod m) % m := by rw [Int.add_comm, Int.add_mul_emod_self_left]
    rw [e1]
    split
    · rw [← Int.add_emod_right]; exact Int.emod_eq_of_lt (by omega) (by omega)
    · exact Int.emod_eq_of_lt (by omega) (by omega)
  by_cases h : a.tmod m < 0
  · go_enter Tryd.func9, Tryd.ntmps9
    go_wp2
    go_ret
    exact ⟨ret_int (by rw [em.out, if_pos h]), rfl⟩
  · go_enter Tryd.func9, Tryd.ntmps9
    go_wp2
    go_ret
    exact ⟨ret_int (by rw [em.out, if_neg (by omega)]), rfl⟩


theorem alloc_at (w : World) (o : Obj) : (w.alloc o).heap[w.heap.size]? = some o := by
  show (w.heap.push o)[w.heap.size]? = _
  simp
theorem heap_alloc_get (w : World) (o : Obj) (k : Nat) : (w.alloc o).heap[k]? = if k = w.heap.size then some o else w.heap[k]? := by
  show (w.heap.push o)[k]? = _
  rw [Array.getElem?_push]
theorem cell_of_block {w : World} {g : Nat} {cs : Array Value} {T : TypeId} (h : w.heap[g]? = some (.cells cs T (0, 0))) (j : Nat) (v : Value) (hv : cs[j]? = some v) : w.cell? ⟨g, j, none⟩ = some v := by
  simp [World.cell?, h, hv]
theorem free_of_block {w : World} {g : Nat} {cs : Array Value} {T : TypeId} (h : w.heap[g]? = some (.cells cs T (0, 0))) (j : Nat) : w.frozen? ⟨g, j, none⟩ = false := by
  simp [World.frozen?, h]
theorem kwid {x : Int} (h1 : -9223372036854775808 ≤ x) (h2 : x < 9223372036854775808) : IntKind.i64.wrap x = x := IntWalk.i64_in _ (by omega)

set_option maxHeartbeats 1000000 in
theorem three_any (a b c d e f m : Int) (hm : 0 < m) (hb : m ≤ 2199023255552) (w : World) : Calls Tryd.prog 8 #[.int .i64 a, .int .i64 b, .int .i64 c, .int .i64 d, .int .i64 e, .int .i64 f, .int .i64 m] w fun r w' => 
    r = .returned (.tuple #[.agg #[.int .i64 (a % m), .int .i64 (b % m)], .agg #[.int .i64 (c % (a % m + 1)), .int .i64 (d % (b % m + 1))], .agg #[.int .i64 (e % (a % m - c % (a % m + 1) + 1)), .int .i64 (f % (b % m - d % (b % m + 1) + 1))]]) ∧ Below w.heap.size w w' := by
  have a1 := Int.emod_nonneg a (show m ≠ 0 by omega)
  have a2 := Int.emod_lt_of_pos a hm
  have b1 := Int.emod_nonneg b (show m ≠ 0 by omega)
  have b2 := Int.emod_lt_of_pos b hm
  go_enter Tryd.func8, Tryd.ntmps8
  go_wp2_with (go_at_call 9; refine (within_any _ _ (by omega) (by omega) _).mono ?_; rintro e w' ⟨rfl, rfl⟩)
  obtain ⟨x0, hx0⟩ : ∃ x, x = a % m := ⟨_, rfl⟩
  obtain ⟨x1, hx1⟩ : ∃ x, x = b % m := ⟨_, rfl⟩
  rw [← hx0] at a1 a2 ⊢
  rw [← hx1] at b1 b2 ⊢
  have HX0 := Lib.hid hx0
  have HX1 := Lib.hid hx1
  clear hx0 hx1
  have c1 := Int.emod_nonneg c (show x0 + 1 ≠ 0 by omega)
  have c2 := Int.emod_lt_of_pos c (show 0 < x0 + 1 by omega)
  have d1 := Int.emod_nonneg d (show x1 + 1 ≠ 0 by omega)
  have d2 := Int.emod_lt_of_pos d (show 0 < x1 + 1 by omega)
  have k0 : IntKind.i64.wrap (x0 + 1) = x0 + 1 := kwid (by omega) (by omega)
  have k1 : IntKind.i64.wrap (x1 + 1) = x1 + 1 := kwid (by omega) (by omega)
  generalize hw1 : World.alloc _ _ = w1
  have hb1 : Below w.heap.size w w1 := by rw [← hw1]; exact below_alloc' (below_alloc' (below_alloc' (below_alloc' (Below.refl _ _) _) _) _) _
  have hs1 : w1.heap.size = w.heap.size + 4 := by rw [← hw1]; simp
  have c0 : w1.cell? ⟨w.heap.size + 3, 0, none⟩ = some (.int .i64 x0) := by rw [← hw1]; simp [go_sem]
  have c1' : w1.cell? ⟨w.heap.size + 3, 1, none⟩ = some (.int .i64 x1) := by rw [← hw1]; simp [go_sem]
  have z0 : w1.heap[w.heap.size]? = some (.cells #[.int .i64 0, .int .i64 0] 25) := by rw [← hw1]; simp only [heap_alloc_get, World.size_alloc]; (repeat (first | rw [if_pos rfl] | rw [if_pos trivial] | rw [if_neg (by omega)]))
  have z1 : w1.heap[w.heap.size + 1]? = some (.cells #[.int .i64 0, .int .i64 0] 25) := by rw [← hw1]; simp only [heap_alloc_get, World.size_alloc]; (repeat (first | rw [if_pos rfl] | rw [if_pos trivial] | rw [if_neg (by omega)]))
  have z2 : w1.heap[w.heap.size + 1 + 1]? = some (.cells #[.int .i64 0, .int .i64 0] 25) := by rw [← hw1]; simp only [heap_alloc_get, World.size_alloc]; (repeat (first | rw [if_pos rfl] | rw [if_pos trivial] | rw [if_neg (by omega)]))
  clear hw1
  have hc : ∀ w2, Below w1.drew.heap.size w1.drew w2 → w2.cell? ⟨w.heap.size + 3, 0, none⟩ = some (.int .i64 x0) ∧ w2.cell? ⟨w.heap.size + 3, 1, none⟩ = some (.int .i64 x1) := fun w2 h =>
    ⟨(h.cell (p := ⟨_, 0, none⟩) (show _ < w1.heap.size by simp only [hs1]; omega)).trans c0, (h.cell (p := ⟨_, 1, none⟩) (show _ < w1.heap.size by simp only [hs1]; omega)).trans c1'⟩
  refine' Par.wp_region_pars (fun w w' => Below w.heap.size w w') 12 (by kernel_rfl) (by kernel_rfl) (by kernel_rfl) (by kernel_rfl) (by kernel_rfl) (by kernel_rfl)
    (fun w => Below.refl _ w) (fun h k => below_call h k) (fun vals => ?_)
  rotate_left
  simp only [List.take_succ_cons, List.take_zero, List.drop_succ_cons, List.drop_zero]
  iterate 4 (apply Par.par_x rfl; (focus (intro w2 hR hD K hK; replace hK := Lib.hid hK; obtain ⟨e0, e1⟩ := hc w2 hR; clear hR hD; go_simp; exact hK.out _ (Below.refl _ _))); simp only [Act.put, List.setIfInBounds_toArray, List.set_cons_zero, List.set_cons_succ, Nat.reduceAdd])
  (apply Par.par_x rfl; (focus (intro w2 hR hD K hK; replace hK := Lib.hid hK; clear hR hD; go_simp; refine (within_any _ _ (by omega) (by omega) _).mono ?_; rintro e w' ⟨rfl, rfl⟩; exact hK.out _ (Below.refl _ _))); simp only [Act.put, List.setIfInBounds_toArray, List.set_cons_zero, List.set_cons_succ, Nat.reduceAdd])
  iterate 4 (apply Par.par_x rfl; (focus (intro w2 hR hD K hK; replace hK := Lib.hid hK; obtain ⟨e0, e1⟩ := hc w2 hR; clear hR hD; go_simp; exact hK.out _ (Below.refl _ _))); simp only [Act.put, List.setIfInBounds_toArray, List.set_cons_zero, List.set_cons_succ, Nat.reduceAdd])
  (apply Par.par_x rfl; (focus (intro w2 hR hD K hK; replace hK := Lib.hid hK; clear hR hD; go_simp; refine (within_any _ _ (by omega) (by omega) _).mono ?_; rintro e w' ⟨rfl, rfl⟩; exact hK.out _ (Below.refl _ _))); simp only [Act.put, List.setIfInBounds_toArray, List.set_cons_zero, List.set_cons_succ, Nat.reduceAdd])
  (apply Par.par_x rfl; (focus (intro w2 hR hD K hK; replace hK := Lib.hid hK; obtain ⟨e0, e1⟩ := hc w2 hR; clear hR hD; go_simp; exact hK.out _ (Below.refl _ _))); simp only [Act.put, List.setIfInBounds_toArray, List.set_cons_zero, List.set_cons_succ, Nat.reduceAdd])
  apply Par.par_r (fun v w' => ∃ g, v = .pointer (some ⟨g, 0, none⟩) ∧ w.heap.size + 4 ≤ g ∧ w'.heap[g]? = some (.cells #[.int .i64 0, .int .i64 0] 25 (0, 0))) rfl
  · rintro v w2 w3 ⟨g, rfl, hg, h⟩ hb
    exact ⟨g, rfl, hg, (hb.block g (Array.getElem?_eq_some_iff.1 h).1).trans h⟩
  · intro w2 hR hD K hK
    replace hK := Lib.hid hK
    have hRs := Lib.hid hR.size
    clear hR hD
    go_simp
    exact hK.out _ _ (below_alloc' (Below.refl _ _) _) ⟨_, rfl, (by rw [← hs1]; exact hRs.out), alloc_at _ _⟩
  simp only [Act.put, List.setIfInBounds_toArray, List.set_cons_zero, List.set_cons_succ, Nat.reduceAdd]
  refine Par.par_end fun w2 hR hp => ?_
  obtain ⟨g, hg, hg4, hgo⟩ := hp 11 (by simp)
  clear hp
  clear k0 k1
  have g0 := cell_of_block hgo 0 (.int .i64 0) rfl
  have g1 := cell_of_block hgo 1 (.int .i64 0) rfl
  have f0 := free_of_block hgo 0
  have f1 := free_of_block hgo 1
  rw [hg]
  clear hg
  obtain ⟨p0, p1⟩ := hc w2 hR
  have hR' := Lib.hid hR
  clear hR
  go_wp2
  have hb2 : Below w.heap.size w w2 := below_call hb1.drew hR'.out
  have blk : ∀ k, k < w.heap.size + 4 → ∀ o, w1.heap[k]? = some o → ((w2.setCell ⟨g, 0, none⟩ (.int .i64 (c % (x0 + 1)))).setCell ⟨g, 1, none⟩ (.int .i64 (d % (x1 + 1)))).heap[k]? = some o := fun k hk o ho =>
    ((Below.heap_setCell _ _ _ _ (show k ≠ g by omega)).trans (Below.heap_setCell _ _ _ _ (show k ≠ g by omega))).trans ((hR'.out.block k (show k < w1.heap.size by omega)).trans ho)
  have y0 := blk _ (by omega) _ z0
  have y1 := blk _ (by omega) _ z1
  have y2 := blk _ (by omega) _ z2
  have hb3 : Below w.heap.size w ((w2.setCell ⟨g, 0, none⟩ (.int .i64 (c % (x0 + 1)))).setCell ⟨g, 1, none⟩ (.int .i64 (d % (x1 + 1)))) :=
    (hb2.setCell (show _ ≤ g by omega) _).setCell (show _ ≤ g by omega) _
  have q0 : ((w2.setCell ⟨g, 0, none⟩ (.int .i64 (c % (x0 + 1)))).setCell ⟨g, 1, none⟩ (.int .i64 (d % (x1 + 1)))).heap[g]? = some (.cells #[.int .i64 (c % (x0 + 1)), .int .i64 (d % (x1 + 1))] 25) :=
    heap_setCell_same _ _ _ _ _ _ (heap_setCell_same _ _ _ _ _ _ hgo)
  have hne : ∀ j, (⟨w.heap.size + 3, j, none⟩ : Addr).block ≠ g := fun j => by show w.heap.size + 3 ≠ g; omega
  have q1 : ∀ j, ((w2.setCell ⟨g, 0, none⟩ (.int .i64 (c % (x0 + 1)))).setCell ⟨g, 1, none⟩ (.int .i64 (d % (x1 + 1)))).cell? ⟨w.heap.size + 3, j, none⟩ = w2.cell? ⟨w.heap.size + 3, j, none⟩ := fun j =>
    World.cell?_of_block ((Below.heap_setCell _ _ _ _ (hne j)).trans (Below.heap_setCell _ _ _ _ (hne j)))
  have r0 := (q1 0).trans p0
  have r1 := (q1 1).trans p1
  have r2 := cell_of_block q0 0 (.int .i64 (c % (x0 + 1))) rfl
  have r3 := cell_of_block q0 1 (.int .i64 (d % (x1 + 1))) rfl
  clear p0 p1 f0 f1 g0 g1
  generalize (w2.setCell ⟨g, 0, none⟩ (.int .i64 (c % (x0 + 1)))).setCell ⟨g, 1, none⟩ (.int .i64 (d % (x1 + 1))) = w3 at *
  obtain ⟨u0, hu0⟩ : ∃ x, x = c % (x0 + 1) := ⟨_, rfl⟩
  obtain ⟨u1, hu1⟩ : ∃ x, x = d % (x1 + 1) := ⟨_, rfl⟩
  rw [← hu0] at c1 c2 r2 ⊢
  rw [← hu1] at d1 d2 r3 ⊢
  have HU0 := Lib.hid hu0
  have HU1 := Lib.hid hu1
  clear hu0 hu1
  clear q1 q0 hgo hb1 hc c0 c1' hs1 z0 z1 z2 hb2 blk hR'
  have s0 : IntKind.i64.wrap (x0 - u0) = x0 - u0 := kwid (by omega) (by omega)
  have s1 : IntKind.i64.wrap (x1 - u1) = x1 - u1 := kwid (by omega) (by omega)
  have t0 : IntKind.i64.wrap (x0 - u0 + 1) = x0 - u0 + 1 := kwid (by omega) (by omega)
  have t1 : IntKind.i64.wrap (x1 - u1 + 1) = x1 - u1 + 1 := kwid (by omega) (by omega)
  have hB3 := Lib.hid hb3
  clear hb3
  have a00 := cell_of_block y0 0 (.int .i64 0) rfl
  have a01 := cell_of_block y0 1 (.int .i64 0) rfl
  have a10 := cell_of_block y1 0 (.int .i64 0) rfl
  have a11 := cell_of_block y1 1 (.int .i64 0) rfl
  have a20 := cell_of_block y2 0 (.int .i64 0) rfl
  have a21 := cell_of_block y2 1 (.int .i64 0) rfl
  have b00 := free_of_block y0
  have b10 := free_of_block y1
  have b20 := free_of_block y2
  have n0 : g ≠ w.heap.size := by omega
  have n1 : g ≠ w.heap.size + 1 := by omega
  have n2 : g ≠ w.heap.size + 1 + 1 := by omega
  have m0 := n0.symm
  have m1 := n1.symm
  have m2 := n2.symm
  clear y0 y1 y2
  go_region_held3 (fun w' => w'.cell? ⟨w.heap.size + 3, 0, none⟩ = some (.int .i64 x0) ∧ w'.cell? ⟨w.heap.size + 3, 1, none⟩ = some (.int .i64 x1) ∧ w'.cell? ⟨g, 0, none⟩ = some (.int .i64 u0) ∧ w'.cell? ⟨g, 1, none⟩ = some (.int .i64 u1)) (go_keep) ((go_at_call 9; refine (within_any _ _ (by omega) (by omega) _).mono ?_; rintro e w' ⟨rfl, rfl⟩))
  go_wp2
  exact bodyPost_ret (v := .tuple #[.agg #[.int .i64 x0, .int .i64 x1], .agg #[.int .i64 u0, .int .i64 u1], .agg #[.int .i64 (e % (x0 - u0 + 1)), .int .i64 (f % (x1 - u1 + 1))]]) (by simp [results, Tryd.results8, go_sem, a00, a01, a10, a11, a20, a21]) rfl ⟨by rw [HU0.out, HU1.out, HX0.out, HX1.out], by (repeat (with_reducible first | exact hB3.out | apply Below.drew | refine Below.setCell ?_ ?_ _)) <;> (dsimp only; omega)⟩


theorem best_nil (w : World) : Calls Tryd.prog 14 #[.slice none 0 0, .slice none 0 0] w fun e w' => e = .returned (.int .i64 (-1)) ∧ w' = w := by
  go_enter Tryd.func14, Tryd.ntmps14
  go_wp2
  go_loop [5, 10] (fun b i => i = .int .i64 0 ∧ b = .int .i64 (-1)) (fun _ i => 0)
  case atStart => exact ⟨rfl, rfl⟩
  case round =>
    obtain ⟨rfl, rfl⟩ := hrel
    go_wp2
    go_ret
    exact ⟨rfl, rfl⟩

theorem known_any (w : World) : Calls Tryd.prog 7 #[] w fun e w' => e = .returned (.bool true) ∧ Below w.heap.size w w' := by
  have e : leftF 4 2 1 0 1 1 = 100 := by simp [leftF, partF, wrap64]
  go_enter Tryd.func7, Tryd.ntmps7
  go_wp2_with (first | (go_at_call 14; refine (best_nil _).mono ?_; rintro e w' ⟨rfl, rfl⟩) | (go_at_call 10; refine (left_any _ _ _ _ _ _ _).mono ?_; rintro r w1 ⟨rfl, hb⟩; have HB := Lib.hid hb; clear hb))
  go_ret
  exact ⟨rfl, HB.out⟩
end Go.Proofs.YtpndngcopfpdgaaDoor
