/- The walk of the law ScoreKnown, for every input, where the table score.tops lies as it was laid. -/
import Derived.Test.YtpndngcopfpdgaaDoorD
set_option linter.unusedVariables false
set_option linter.unusedSimpArgs false
namespace Go.Proofs.YtpndngcopfpdgaaDoor
open Go.RowKit

theorem row_keep (n : Nat) (cs : Array Value) (T : TypeId) : ∀ (v : Value) (w w' : World), (∃ g, v = .slice (some ⟨g, 0, none⟩) n n ∧ w.heap[g]? = some (.cells cs T (0, 0))) → Below w.heap.size w w' → ∃ g, v = .slice (some ⟨g, 0, none⟩) n n ∧ w'.heap[g]? = some (.cells cs T (0, 0)) := by
  rintro v w w' ⟨g, rfl, h⟩ hb
  exact ⟨g, rfl, (hb.block g (Array.getElem?_eq_some_iff.1 h).1).trans h⟩

def strsOf (cs : List Value) : List ByteArray := cs.map fun | .string s => s | _ => ByteArray.empty
def intsOf (cs : List Value) : List Int := cs.map fun | .int _ n => n | _ => 0
def allStr (cs : List Value) : Bool := cs.all fun | .string _ => true | _ => false
def allInt (cs : List Value) : Bool := cs.all fun | .int .i64 _ => true | _ => false
theorem best_blocks {w : World} {g g' n : Nat} {cs cs' : List Value} {T T' : TypeId} (h : w.heap[g]? = some (.cells cs.toArray T (0, 0))) (h' : w.heap[g']? = some (.cells cs'.toArray T' (0, 0))) {r : Int}
    (hn : cs.length = n := by rfl) (hn' : cs'.length = n := by rfl) (hs : allStr cs = true := by rfl) (hi : allInt cs' = true := by rfl) (hm : n ≤ 4611686018427387904 := by omega) (hr : bestTo (strsOf cs) (intsOf cs') n = r := by kernel_rfl) :
    Calls Tryd.prog 14 #[.slice (some ⟨g, 0, none⟩) n n, .slice (some ⟨g', 0, none⟩) n n] w fun e w' => ∃ q, e = .returned (.int .i64 r) ∧ w' = w.drewN q := by
  subst hr
  refine best_pos n g 0 n g' 0 n (strsOf cs) (intsOf cs') hm w (fun j hj => ?_) (fun j hj => ?_)
  · rw [Nat.zero_add]
    have hjl : j < cs.length := by omega
    refine cell_of_block h j _ ?_
    rw [List.getElem?_toArray, List.getElem?_eq_getElem hjl]
    have := List.all_eq_true.1 hs cs[j] (List.getElem_mem hjl)
    simp only [strsOf, List.getD_eq_getElem?_getD, List.getElem?_map, List.getElem?_eq_getElem hjl, Option.map_some, Option.getD_some]
    cases hv : cs[j] <;> rw [hv] at this <;> simp at this ⊢
  · rw [Nat.zero_add]
    have hjl : j < cs'.length := by omega
    refine cell_of_block h' j _ ?_
    rw [List.getElem?_toArray, List.getElem?_eq_getElem hjl]
    have := List.all_eq_true.1 hi cs'[j] (List.getElem_mem hjl)
    simp only [intsOf, List.getD_eq_getElem?_getD, List.getElem?_map, List.getElem?_eq_getElem hjl, Option.map_some, Option.getD_some]
    cases hv : cs'[j] <;> rw [hv] at this <;> simp at this ⊢
    rename_i k n
    cases k <;> simp at this ⊢

set_option maxHeartbeats 2000000 in
theorem known_walk (which : Int) (w : World) (ht : Tops w) : Calls Tryd.prog 5 #[.int .i64 which] w fun r w' => r = .returned (.bool true) ∧ Below w.heap.size w w' := by
  have HT := Lib.hid ht
  clear ht
  go_enter Tryd.func5, Tryd.ntmps5
  go_wp2_with ((go_at_call 7; refine (known_any _).mono ?_; rintro r w1 ⟨rfl, hb⟩; have HB1 := Lib.hid hb; clear hb))
  generalize hw3 : World.alloc _ _ = w3
  have hb3 : Below w.heap.size w w3 := by rw [← hw3]; exact below_alloc' (below_alloc' (below_alloc' HB1.out _) _) _
  have z0 : w3.heap[w1.heap.size]? = some (.cells #[.int .i64 3, .int .i64 7] 25) := by rw [← hw3]; simp only [heap_alloc_get, World.size_alloc]; (repeat (first | rw [if_pos rfl] | rw [if_pos trivial] | rw [if_neg (by omega)]))
  have z1 : w3.heap[w1.heap.size + 1]? = some (.cells #[.int .i64 1, .int .i64 2] 25) := by rw [← hw3]; simp only [heap_alloc_get, World.size_alloc]; (repeat (first | rw [if_pos rfl] | rw [if_pos trivial] | rw [if_neg (by omega)]))
  have z2 : w3.heap[w1.heap.size + 1 + 1]? = some (.cells #[.int .i64 1, .int .i64 2] 25) := by rw [← hw3]; simp only [heap_alloc_get, World.size_alloc]; (repeat (first | rw [if_pos rfl] | rw [if_pos trivial] | rw [if_neg (by omega)]))
  clear hw3
  have hc : ∀ w2, Below w3.drew.heap.size w3.drew w2 → w2.cell? ⟨w1.heap.size, 0, none⟩ = some (.int .i64 3) ∧ w2.cell? ⟨w1.heap.size, 1, none⟩ = some (.int .i64 7) ∧ w2.cell? ⟨w1.heap.size + 1, 0, none⟩ = some (.int .i64 1) ∧ w2.cell? ⟨w1.heap.size + 1, 1, none⟩ = some (.int .i64 2) ∧ w2.cell? ⟨w1.heap.size + 1 + 1, 0, none⟩ = some (.int .i64 1) ∧ w2.cell? ⟨w1.heap.size + 1 + 1, 1, none⟩ = some (.int .i64 2) ∧ Tops w2 := fun w2 h =>
    have k := keep6 (keep6 ⟨cell_of_block z0 0 (.int .i64 3) rfl, cell_of_block z0 1 (.int .i64 7) rfl, cell_of_block z1 0 (.int .i64 1) rfl, cell_of_block z1 1 (.int .i64 2) rfl, cell_of_block z2 0 (.int .i64 1) rfl, cell_of_block z2 1 (.int .i64 2) rfl, HT.out.below hb3, hb3⟩ (Below.refl _ w3).drew) h
    ⟨k.1, k.2.1, k.2.2.1, k.2.2.2.1, k.2.2.2.2.1, k.2.2.2.2.2.1, k.2.2.2.2.2.2.1⟩
  replace hc := Lib.hid hc
  have HB3 := Lib.hid hb3
  clear hb3 z0 z1 z2
  have l0 : leftF 3 7 1 2 1 2 = 75 := by simp [leftF, partF, wrap64]
  have l1 : leftF 0 10 0 0 0 10 = 100 := by simp [leftF, partF, wrap64]
  have l2 : leftF 1099511627776 1 1099511627775 0 1 0 = 100 := by simp [leftF, partF, wrap64]
  have s0 : scoreF 0 75 4 = 75 := by simp [scoreF, wrap64]
  have s1 : scoreF 1 75 4 = 125 := by simp [scoreF, wrap64]
  have s2 : scoreF 2 75 4 = 996 := by simp [scoreF, wrap64]
  have s3 : scoreF 3 75 4 = 0 := by simp [scoreF, wrap64]
  refine' Par.wp_region_pars (fun w w' => Below w.heap.size w w') 39 (by kernel_rfl) (by kernel_rfl) (by kernel_rfl) (by kernel_rfl) (by kernel_rfl) (by kernel_rfl)
    (fun w => Below.refl _ w) (fun h k => below_call h k) (fun vals => ?_)
  rotate_left
  simp only [List.take_succ_cons, List.take_zero, List.drop_succ_cons, List.drop_zero]
  iterate 3 (apply Par.par_x rfl; (focus (intro w2 hR hD K hK; replace hK := Lib.hid hK; obtain ⟨e0, e1, e2, e3, e4, e5, e6⟩ := hc.out w2 hR; clear hR hD; go_simp; exact hK.out _ (Below.refl _ _))); simp only [Act.put, List.setIfInBounds_toArray, List.set_cons_zero, List.set_cons_succ, Nat.reduceAdd])
  (apply Par.par_x rfl; (focus (intro w2 hR hD K hK; replace hK := Lib.hid hK; clear hR hD; go_simp; refine (left_any _ _ _ _ _ _ _).mono ?_; rintro r w4 ⟨rfl, hb⟩; simp only [l0, l1, l2]; exact hK.out _ hb)); simp only [Act.put, List.setIfInBounds_toArray, List.set_cons_zero, List.set_cons_succ, Nat.reduceAdd])
  iterate 3 (apply Par.par_x rfl; (focus (intro w2 hR hD K hK; replace hK := Lib.hid hK; obtain ⟨e0, e1, e2, e3, e4, e5, e6⟩ := hc.out w2 hR; clear hR hD; go_simp; exact hK.out _ (Below.refl _ _))); simp only [Act.put, List.setIfInBounds_toArray, List.set_cons_zero, List.set_cons_succ, Nat.reduceAdd])
  (apply Par.par_x rfl; (focus (intro w2 hR hD K hK; replace hK := Lib.hid hK; obtain ⟨e0, e1, e2, e3, e4, e5, e6⟩ := hc.out w2 hR; clear hR hD; go_simp; refine (score_any _ _ _ _ _ _ _ _ _ e6).mono ?_; rintro r w4 ⟨rfl, hb⟩; simp only [l0, s0, s1, s2, s3]; exact hK.out _ hb)); simp only [Act.put, List.setIfInBounds_toArray, List.set_cons_zero, List.set_cons_succ, Nat.reduceAdd])
  iterate 3 (apply Par.par_x rfl; (focus (intro w2 hR hD K hK; replace hK := Lib.hid hK; obtain ⟨e0, e1, e2, e3, e4, e5, e6⟩ := hc.out w2 hR; clear hR hD; go_simp; exact hK.out _ (Below.refl _ _))); simp only [Act.put, List.setIfInBounds_toArray, List.set_cons_zero, List.set_cons_succ, Nat.reduceAdd])
  (apply Par.par_x rfl; (focus (intro w2 hR hD K hK; replace hK := Lib.hid hK; obtain ⟨e0, e1, e2, e3, e4, e5, e6⟩ := hc.out w2 hR; clear hR hD; go_simp; refine (score_any _ _ _ _ _ _ _ _ _ e6).mono ?_; rintro r w4 ⟨rfl, hb⟩; simp only [l0, s0, s1, s2, s3]; exact hK.out _ hb)); simp only [Act.put, List.setIfInBounds_toArray, List.set_cons_zero, List.set_cons_succ, Nat.reduceAdd])
  iterate 3 (apply Par.par_x rfl; (focus (intro w2 hR hD K hK; replace hK := Lib.hid hK; obtain ⟨e0, e1, e2, e3, e4, e5, e6⟩ := hc.out w2 hR; clear hR hD; go_simp; exact hK.out _ (Below.refl _ _))); simp only [Act.put, List.setIfInBounds_toArray, List.set_cons_zero, List.set_cons_succ, Nat.reduceAdd])
  (apply Par.par_x rfl; (focus (intro w2 hR hD K hK; replace hK := Lib.hid hK; obtain ⟨e0, e1, e2, e3, e4, e5, e6⟩ := hc.out w2 hR; clear hR hD; go_simp; refine (score_any _ _ _ _ _ _ _ _ _ e6).mono ?_; rintro r w4 ⟨rfl, hb⟩; simp only [l0, s0, s1, s2, s3]; exact hK.out _ hb)); simp only [Act.put, List.setIfInBounds_toArray, List.set_cons_zero, List.set_cons_succ, Nat.reduceAdd])
  iterate 3 (apply Par.par_x rfl; (focus (intro w2 hR hD K hK; replace hK := Lib.hid hK; obtain ⟨e0, e1, e2, e3, e4, e5, e6⟩ := hc.out w2 hR; clear hR hD; go_simp; exact hK.out _ (Below.refl _ _))); simp only [Act.put, List.setIfInBounds_toArray, List.set_cons_zero, List.set_cons_succ, Nat.reduceAdd])
  (apply Par.par_x rfl; (focus (intro w2 hR hD K hK; replace hK := Lib.hid hK; obtain ⟨e0, e1, e2, e3, e4, e5, e6⟩ := hc.out w2 hR; clear hR hD; go_simp; refine (score_any _ _ _ _ _ _ _ _ _ e6).mono ?_; rintro r w4 ⟨rfl, hb⟩; simp only [l0, s0, s1, s2, s3]; exact hK.out _ hb)); simp only [Act.put, List.setIfInBounds_toArray, List.set_cons_zero, List.set_cons_succ, Nat.reduceAdd])
  iterate 3 (apply Par.par_x rfl; (focus (intro w2 hR hD K hK; replace hK := Lib.hid hK; clear hR hD; go_simp; exact hK.out _ (Below.refl _ _))); simp only [Act.put, List.setIfInBounds_toArray, List.set_cons_zero, List.set_cons_succ, Nat.reduceAdd])
  (apply Par.par_x rfl; (focus (intro w2 hR hD K hK; replace hK := Lib.hid hK; clear hR hD; go_simp; refine (left_any _ _ _ _ _ _ _).mono ?_; rintro r w4 ⟨rfl, hb⟩; simp only [l0, l1, l2]; exact hK.out _ hb)); simp only [Act.put, List.setIfInBounds_toArray, List.set_cons_zero, List.set_cons_succ, Nat.reduceAdd])
  (apply Par.par_r (fun v w' => ∃ g, v = .slice (some ⟨g, 0, none⟩) 3 3 ∧ w'.heap[g]? = some (.cells #[.string ⟨#[98]⟩, .string ⟨#[97]⟩, .string ⟨#[99]⟩] 9 (0, 0))) rfl (row_keep _ _ _); (focus (intro w2 hR hD K hK; replace hK := Lib.hid hK; clear hR hD; go_simp; exact hK.out _ _ (below_alloc' (Below.refl _ _) _) ⟨_, rfl, alloc_at _ _⟩)); simp only [Act.put, List.setIfInBounds_toArray, List.set_cons_zero, List.set_cons_succ, Nat.reduceAdd])
  (apply Par.par_r (fun v w' => ∃ g, v = .slice (some ⟨g, 0, none⟩) 3 3 ∧ w'.heap[g]? = some (.cells #[.int .i64 5, .int .i64 5, .int .i64 4] 3 (0, 0))) rfl (row_keep _ _ _); (focus (intro w2 hR hD K hK; replace hK := Lib.hid hK; clear hR hD; go_simp; exact hK.out _ _ (below_alloc' (Below.refl _ _) _) ⟨_, rfl, alloc_at _ _⟩)); simp only [Act.put, List.setIfInBounds_toArray, List.set_cons_zero, List.set_cons_succ, Nat.reduceAdd])
  (apply Par.par_x (e := .int .i64 1) rfl; (focus (intro w2 hR hD K hK; replace hK := Lib.hid hK; obtain ⟨g, hg, hgo⟩ := hD 24 (by kernel_rfl); obtain ⟨g', hg', hgo'⟩ := hD 25 (by kernel_rfl); simp only [hg, hg'] at hK ⊢; clear hR hD hg hg'; go_simp; refine (best_blocks (r := 1) hgo hgo').mono ?_; rintro r w4 ⟨q, rfl, rfl⟩; exact hK.out _ (below_drewN' (Below.refl _ _) _))); simp only [Act.put, List.setIfInBounds_toArray, List.set_cons_zero, List.set_cons_succ, Nat.reduceAdd])
  (apply Par.par_r (fun v w' => ∃ g, v = .slice (some ⟨g, 0, none⟩) 3 3 ∧ w'.heap[g]? = some (.cells #[.string ⟨#[98]⟩, .string ⟨#[97]⟩, .string ⟨#[97]⟩] 9 (0, 0))) rfl (row_keep _ _ _); (focus (intro w2 hR hD K hK; replace hK := Lib.hid hK; clear hR hD; go_simp; exact hK.out _ _ (below_alloc' (Below.refl _ _) _) ⟨_, rfl, alloc_at _ _⟩)); simp only [Act.put, List.setIfInBounds_toArray, List.set_cons_zero, List.set_cons_succ, Nat.reduceAdd])
  (apply Par.par_r (fun v w' => ∃ g, v = .slice (some ⟨g, 0, none⟩) 3 3 ∧ w'.heap[g]? = some (.cells #[.int .i64 (-3), .int .i64 (-3), .int .i64 (-3)] 3 (0, 0))) rfl (row_keep _ _ _); (focus (intro w2 hR hD K hK; replace hK := Lib.hid hK; clear hR hD; go_simp; exact hK.out _ _ (below_alloc' (Below.refl _ _) _) ⟨_, rfl, alloc_at _ _⟩)); simp only [Act.put, List.setIfInBounds_toArray, List.set_cons_zero, List.set_cons_succ, Nat.reduceAdd])
  (apply Par.par_x (e := .int .i64 1) rfl; (focus (intro w2 hR hD K hK; replace hK := Lib.hid hK; obtain ⟨g, hg, hgo⟩ := hD 27 (by kernel_rfl); obtain ⟨g', hg', hgo'⟩ := hD 28 (by kernel_rfl); simp only [hg, hg'] at hK ⊢; clear hR hD hg hg'; go_simp; refine (best_blocks (r := 1) hgo hgo').mono ?_; rintro r w4 ⟨q, rfl, rfl⟩; exact hK.out _ (below_drewN' (Below.refl _ _) _))); simp only [Act.put, List.setIfInBounds_toArray, List.set_cons_zero, List.set_cons_succ, Nat.reduceAdd])
  (apply Par.par_r (fun v w' => ∃ g, v = .slice (some ⟨g, 0, none⟩) 2 2 ∧ w'.heap[g]? = some (.cells #[.string ⟨#[206, 178]⟩, .string ⟨#[122]⟩] 9 (0, 0))) rfl (row_keep _ _ _); (focus (intro w2 hR hD K hK; replace hK := Lib.hid hK; clear hR hD; go_simp; exact hK.out _ _ (below_alloc' (Below.refl _ _) _) ⟨_, rfl, alloc_at _ _⟩)); simp only [Act.put, List.setIfInBounds_toArray, List.set_cons_zero, List.set_cons_succ, Nat.reduceAdd])
  (apply Par.par_r (fun v w' => ∃ g, v = .slice (some ⟨g, 0, none⟩) 2 2 ∧ w'.heap[g]? = some (.cells #[.int .i64 1, .int .i64 1] 3 (0, 0))) rfl (row_keep _ _ _); (focus (intro w2 hR hD K hK; replace hK := Lib.hid hK; clear hR hD; go_simp; exact hK.out _ _ (below_alloc' (Below.refl _ _) _) ⟨_, rfl, alloc_at _ _⟩)); simp only [Act.put, List.setIfInBounds_toArray, List.set_cons_zero, List.set_cons_succ, Nat.reduceAdd])
  (apply Par.par_x (e := .int .i64 1) rfl; (focus (intro w2 hR hD K hK; replace hK := Lib.hid hK; obtain ⟨g, hg, hgo⟩ := hD 30 (by kernel_rfl); obtain ⟨g', hg', hgo'⟩ := hD 31 (by kernel_rfl); simp only [hg, hg'] at hK ⊢; clear hR hD hg hg'; go_simp; refine (best_blocks (r := 1) hgo hgo').mono ?_; rintro r w4 ⟨q, rfl, rfl⟩; exact hK.out _ (below_drewN' (Below.refl _ _) _))); simp only [Act.put, List.setIfInBounds_toArray, List.set_cons_zero, List.set_cons_succ, Nat.reduceAdd])
  iterate 3 (apply Par.par_x rfl; (focus (intro w2 hR hD K hK; replace hK := Lib.hid hK; clear hR hD; go_simp; exact hK.out _ (Below.refl _ _))); simp only [Act.put, List.setIfInBounds_toArray, List.set_cons_zero, List.set_cons_succ, Nat.reduceAdd])
  (apply Par.par_x rfl; (focus (intro w2 hR hD K hK; replace hK := Lib.hid hK; clear hR hD; go_simp; refine (left_any _ _ _ _ _ _ _).mono ?_; rintro r w4 ⟨rfl, hb⟩; simp only [l0, l1, l2]; exact hK.out _ hb)); simp only [Act.put, List.setIfInBounds_toArray, List.set_cons_zero, List.set_cons_succ, Nat.reduceAdd])
  (apply Par.par_r (fun v w' => ∃ g, v = .slice (some ⟨g, 0, none⟩) 10 10 ∧ w'.heap[g]? = some (.cells #[.int .i64 75, .int .i64 75, .int .i64 125, .int .i64 996, .int .i64 0, .int .i64 100, .int .i64 1, .int .i64 1, .int .i64 1, .int .i64 100] 3 (0, 0))) rfl (row_keep _ _ _); (focus (intro w2 hR hD K hK; replace hK := Lib.hid hK; clear hR hD; go_simp; exact hK.out _ _ (below_alloc' (Below.refl _ _) _) ⟨_, rfl, alloc_at _ _⟩)); simp only [Act.put, List.setIfInBounds_toArray, List.set_cons_zero, List.set_cons_succ, Nat.reduceAdd])
  apply Par.par_r (fun v w' => ∃ g, v = .slice (some ⟨g, 0, none⟩) 10 10 ∧ w'.heap[g]? = some (.cells #[.int .i64 75, .int .i64 75, .int .i64 125, .int .i64 996, .int .i64 0, .int .i64 100, .int .i64 1, .int .i64 1, .int .i64 1, .int .i64 100] 3 (0, 0))) rfl (row_keep _ _ _)
  · intro w2 hR hD K hK
    replace hK := Lib.hid hK
    obtain ⟨g, hg, hgo⟩ := hD 37 (by kernel_rfl)
    simp only [hg] at hK ⊢
    have HG := Lib.hid hgo
    clear hR hD hg hgo
    go_simp
    exact hK.out _ _ (Below.refl _ _) ⟨g, rfl, HG.out⟩
  simp only [Act.put, List.setIfInBounds_toArray, List.set_cons_zero, List.set_cons_succ, Nat.reduceAdd]
  refine Par.par_end fun w2 hR hp => ?_
  obtain ⟨g, hg, hgo⟩ := hp 38 (by simp)
  simp only [hg]
  clear hp hg
  have HB4 := Lib.hid (below_call HB3.out.drew hR)
  clear hR
  have p1 := Int.emod_nonneg which (show (10 : Int) ≠ 0 by omega)
  have p2 := Int.emod_lt_of_pos which (show (0 : Int) < 10 by omega)
  obtain ⟨k, hk⟩ : ∃ k : Nat, which % 10 = k := ⟨(which % 10).toNat, by omega⟩
  have hk10 : k < 10 := by omega
  have ik : (k : Int) < 10 := by omega
  have HK := Lib.hid hk
  clear hk p1 p2
  have hgs : g < w2.heap.size := (Array.getElem?_eq_some_iff.1 hgo).1
  obtain ⟨t, ht⟩ : ∃ t, (#[.int .i64 75, .int .i64 75, .int .i64 125, .int .i64 996, .int .i64 0, .int .i64 100, .int .i64 1, .int .i64 1, .int .i64 1, .int .i64 100] : Array Value)[k]? = some (.int .i64 t) := by
    match k, hk10 with | 0, _ => exact ⟨_, rfl⟩ | 1, _ => exact ⟨_, rfl⟩ | 2, _ => exact ⟨_, rfl⟩ | 3, _ => exact ⟨_, rfl⟩ | 4, _ => exact ⟨_, rfl⟩ | 5, _ => exact ⟨_, rfl⟩ | 6, _ => exact ⟨_, rfl⟩ | 7, _ => exact ⟨_, rfl⟩ | 8, _ => exact ⟨_, rfl⟩ | 9, _ => exact ⟨_, rfl⟩
  have c1 : (w2.alloc (.cells #[.int .i64 75, .int .i64 75, .int .i64 125, .int .i64 996, .int .i64 0, .int .i64 100, .int .i64 1, .int .i64 1, .int .i64 1, .int .i64 100] 3 (0, 0))).cell? ⟨g, k, none⟩ = some (.int .i64 t) :=
    cell_of_block ((Below.heap_alloc _ _ _ hgs).trans hgo) k _ ht
  have c2 : (w2.alloc (.cells #[.int .i64 75, .int .i64 75, .int .i64 125, .int .i64 996, .int .i64 0, .int .i64 100, .int .i64 1, .int .i64 1, .int .i64 1, .int .i64 100] 3 (0, 0))).cell? ⟨w2.heap.size, k, none⟩ = some (.int .i64 t) :=
    cell_of_block (alloc_at _ _) k _ ht
  clear hgo ht
  have HC1 := Lib.hid c1
  have HC2 := Lib.hid c2
  clear c1 c2
  go_wp2_with ((go_at_call 9; refine (within_any _ _ (by omega) (by omega) _).mono ?_; rintro e w' ⟨rfl, rfl⟩))
  rw [HK.out]
  have c1 := HC1.out
  have c2 := HC2.out
  generalize hw : World.alloc _ _ = w5 at *
  have HB5 : Hid (Below w.heap.size w w5) := by rw [← hw]; exact below_alloc' HB4.out _
  clear hw HC1 HC2
  go_quiet (fail)
  go_wp2
  go_ret
  exact ⟨rfl, below_drewN' HB5.out _⟩
end Go.Proofs.YtpndngcopfpdgaaDoor
