/- The law's Make of a tick. -/
import Derived.Test.YtoekofanmgdbmaaGreatDoorTk
set_option linter.unusedVariables false
set_option linter.unusedSimpArgs false
namespace Go.Proofs.YtoekofanmgdbmaaGreatDoor
open Go.RowKit

/-- An event of a tick, as the law makes it. -/
def tickE (k : Nat) : Value := evV 9 k 0 0 (.slice none 0 0) (.string ⟨#[]⟩) (.int .i64 0) (.int .i64 0) (.slice none 0 0) (.slice none 0 0) (.bool false)
set_option maxHeartbeats 4000000 in
set_option maxRecDepth 100000 in
theorem make_tick (k : Nat) (hk : k < 1000000) (w : World) : Calls Tryz.prog 7 #[.int .i64 8, .int .i64 k, .int .i64 0, .slice none 0 0, .int .i64 0] w fun e w' => e = .returned (.tuple #[tickE k, tickE k]) ∧ Below w.heap.size w w' := by
  go_enter Tryz.func7, Tryz.ntmps7
  go_wp2_with fail
  refine (within15_any 8 11 (by omega) (by omega) _).mono ?_
  rintro e w1 ⟨rfl, rfl⟩
  have h8 : (8 : Int) % 11 = 8 := by decide
  rw [h8]
  go_wp2_with fail
  refine (within15_any k 1000000 (by omega) (by omega) _).mono ?_
  rintro e w2 ⟨rfl, rfl⟩
  have hkk : (k : Int) % 1000000 = k := by omega
  rw [hkk]
  go_wp2_with fail
  have hb3 : Below w.heap.size w (((w.alloc (.cells #[.int .i64 0, .int .i64 0, .int .i64 0, .int .i64 0, .slice none 0 0, .string ⟨#[]⟩, .int .i64 0, .int .i64 0, .slice none 0 0, .slice none 0 0, .bool false] 33)).alloc (.cells #[.int .i64 0, .int .i64 0, .int .i64 0, .int .i64 0, .slice none 0 0, .string ⟨#[]⟩, .int .i64 0, .int .i64 0, .slice none 0 0, .slice none 0 0, .bool false] 34)).alloc (.cells #[.int .i64 9, .int .i64 k, .int .i64 0, .int .i64 0, .slice none 0 0, .string ⟨#[]⟩, .int .i64 0, .int .i64 0, .slice none 0 0, .slice none 0 0, .bool false] 34)) := below_alloc' (below_alloc' (below_alloc' (Below.refl _ _) _) _) _
  have z2 : (((w.alloc (.cells #[.int .i64 0, .int .i64 0, .int .i64 0, .int .i64 0, .slice none 0 0, .string ⟨#[]⟩, .int .i64 0, .int .i64 0, .slice none 0 0, .slice none 0 0, .bool false] 33)).alloc (.cells #[.int .i64 0, .int .i64 0, .int .i64 0, .int .i64 0, .slice none 0 0, .string ⟨#[]⟩, .int .i64 0, .int .i64 0, .slice none 0 0, .slice none 0 0, .bool false] 34)).alloc (.cells #[.int .i64 9, .int .i64 k, .int .i64 0, .int .i64 0, .slice none 0 0, .string ⟨#[]⟩, .int .i64 0, .int .i64 0, .slice none 0 0, .slice none 0 0, .bool false] 34)).heap[w.heap.size + 1 + 1]? = some (.cells #[.int .i64 9, .int .i64 k, .int .i64 0, .int .i64 0, .slice none 0 0, .string ⟨#[]⟩, .int .i64 0, .int .i64 0, .slice none 0 0, .slice none 0 0, .bool false] 34 (0, 0)) := by
    have := alloc_second (w.alloc (.cells #[.int .i64 0, .int .i64 0, .int .i64 0, .int .i64 0, .slice none 0 0, .string ⟨#[]⟩, .int .i64 0, .int .i64 0, .slice none 0 0, .slice none 0 0, .bool false] 33)) (.cells #[.int .i64 0, .int .i64 0, .int .i64 0, .int .i64 0, .slice none 0 0, .string ⟨#[]⟩, .int .i64 0, .int .i64 0, .slice none 0 0, .slice none 0 0, .bool false] 34) (.cells #[.int .i64 9, .int .i64 k, .int .i64 0, .int .i64 0, .slice none 0 0, .string ⟨#[]⟩, .int .i64 0, .int .i64 0, .slice none 0 0, .slice none 0 0, .bool false] 34)
    rwa [World.size_alloc] at this
  have z1 : (((w.alloc (.cells #[.int .i64 0, .int .i64 0, .int .i64 0, .int .i64 0, .slice none 0 0, .string ⟨#[]⟩, .int .i64 0, .int .i64 0, .slice none 0 0, .slice none 0 0, .bool false] 33)).alloc (.cells #[.int .i64 0, .int .i64 0, .int .i64 0, .int .i64 0, .slice none 0 0, .string ⟨#[]⟩, .int .i64 0, .int .i64 0, .slice none 0 0, .slice none 0 0, .bool false] 34)).alloc (.cells #[.int .i64 9, .int .i64 k, .int .i64 0, .int .i64 0, .slice none 0 0, .string ⟨#[]⟩, .int .i64 0, .int .i64 0, .slice none 0 0, .slice none 0 0, .bool false] 34)).heap[w.heap.size + 1]? = some (.cells #[.int .i64 0, .int .i64 0, .int .i64 0, .int .i64 0, .slice none 0 0, .string ⟨#[]⟩, .int .i64 0, .int .i64 0, .slice none 0 0, .slice none 0 0, .bool false] 34 (0, 0)) := by
    rw [Below.heap_alloc _ _ _ (by simp)]; exact alloc_second _ _ _
  have z0 : (((w.alloc (.cells #[.int .i64 0, .int .i64 0, .int .i64 0, .int .i64 0, .slice none 0 0, .string ⟨#[]⟩, .int .i64 0, .int .i64 0, .slice none 0 0, .slice none 0 0, .bool false] 33)).alloc (.cells #[.int .i64 0, .int .i64 0, .int .i64 0, .int .i64 0, .slice none 0 0, .string ⟨#[]⟩, .int .i64 0, .int .i64 0, .slice none 0 0, .slice none 0 0, .bool false] 34)).alloc (.cells #[.int .i64 9, .int .i64 k, .int .i64 0, .int .i64 0, .slice none 0 0, .string ⟨#[]⟩, .int .i64 0, .int .i64 0, .slice none 0 0, .slice none 0 0, .bool false] 34)).heap[w.heap.size]? = some (.cells #[.int .i64 0, .int .i64 0, .int .i64 0, .int .i64 0, .slice none 0 0, .string ⟨#[]⟩, .int .i64 0, .int .i64 0, .slice none 0 0, .slice none 0 0, .bool false] 33 (0, 0)) := by
    rw [Below.heap_alloc _ _ _ (by simp; omega), Below.heap_alloc _ _ _ (by simp)]; exact alloc_at _ _
  generalize World.alloc (World.alloc (World.alloc w _) _) _ = w3 at hb3 z0 z1 z2 ⊢
  have f0 := fun j => free_of_block z0 j
  have f1 := fun j => free_of_block z1 j
  have c0 := cell_of_block z2 0 _ rfl
  have c1 := cell_of_block z2 1 _ rfl
  have c2 := cell_of_block z2 2 _ rfl
  have c3 := cell_of_block z2 3 _ rfl
  have c4 := cell_of_block z2 4 _ rfl
  have c5 := cell_of_block z2 5 _ rfl
  have c6 := cell_of_block z2 6 _ rfl
  have c7 := cell_of_block z2 7 _ rfl
  have c8 := cell_of_block z2 8 _ rfl
  have c9 := cell_of_block z2 9 _ rfl
  have c10 := cell_of_block z2 10 _ rfl
  have a0 := cell_of_block z0 0 _ rfl
  have b0 := cell_of_block z1 0 _ rfl
  have a1 := cell_of_block z0 1 _ rfl
  have b1 := cell_of_block z1 1 _ rfl
  have a2 := cell_of_block z0 2 _ rfl
  have b2 := cell_of_block z1 2 _ rfl
  have a3 := cell_of_block z0 3 _ rfl
  have b3 := cell_of_block z1 3 _ rfl
  have a4 := cell_of_block z0 4 _ rfl
  have b4 := cell_of_block z1 4 _ rfl
  have a5 := cell_of_block z0 5 _ rfl
  have b5 := cell_of_block z1 5 _ rfl
  have a6 := cell_of_block z0 6 _ rfl
  have b6 := cell_of_block z1 6 _ rfl
  have a7 := cell_of_block z0 7 _ rfl
  have b7 := cell_of_block z1 7 _ rfl
  have a8 := cell_of_block z0 8 _ rfl
  have b8 := cell_of_block z1 8 _ rfl
  have a9 := cell_of_block z0 9 _ rfl
  have b9 := cell_of_block z1 9 _ rfl
  have a10 := cell_of_block z0 10 _ rfl
  have b10 := cell_of_block z1 10 _ rfl
  have HB3 := Lib.hid hb3
  have Z0 := Lib.hid z0
  have Z1 := Lib.hid z1
  have Z2 := Lib.hid z2
  clear hb3 z0 z1 z2
  go_region
  clear a0 a1 a2 a3 a4 a5 a6 a7 a8 a9 a10 b0 b1 b2 b3 b4 b5 b6 b7 b8 b9 b10 c0 c1 c2 c3 c4 c5 c6 c7 c8 c9 c10 f0 f1
  go_wp2
  have g0 := sets11 (.int .i64 9) (.int .i64 k) (.int .i64 0) (.int .i64 0) (.slice none 0 0) (.string ⟨#[]⟩) (.int .i64 0) (.int .i64 0) (.slice none 0 0) (.slice none 0 0) (.bool false) Z0.out
  have h0 := below_sets (b := w.heap.size) (Nat.le_refl _) [.int .i64 9, .int .i64 k, .int .i64 0, .int .i64 0, .slice none 0 0, .string ⟨#[]⟩, .int .i64 0, .int .i64 0, .slice none 0 0, .slice none 0 0, .bool false] 0 w3 HB3.out
  have g1 : (w3.setCells w.heap.size 0 [.int .i64 9, .int .i64 k, .int .i64 0, .int .i64 0, .slice none 0 0, .string ⟨#[]⟩, .int .i64 0, .int .i64 0, .slice none 0 0, .slice none 0 0, .bool false]).heap[w.heap.size + 1]? = some (.cells #[.int .i64 0, .int .i64 0, .int .i64 0, .int .i64 0, .slice none 0 0, .string ⟨#[]⟩, .int .i64 0, .int .i64 0, .slice none 0 0, .slice none 0 0, .bool false] 34 (0, 0)) := by
    simp only [World.setCells]
    iterate 11 rw [Below.heap_setCell _ _ _ _ (by simp)]
    exact Z1.out
  obtain ⟨W1, hW1⟩ : ∃ W1, w3.setCells w.heap.size 0 [.int .i64 9, .int .i64 k, .int .i64 0, .int .i64 0, .slice none 0 0, .string ⟨#[]⟩, .int .i64 0, .int .i64 0, .slice none 0 0, .slice none 0 0, .bool false] = W1 := ⟨_, rfl⟩
  rw [hW1] at g0 h0 g1
  have g2 := sets11 (.int .i64 9) (.int .i64 k) (.int .i64 0) (.int .i64 0) (.slice none 0 0) (.string ⟨#[]⟩) (.int .i64 0) (.int .i64 0) (.slice none 0 0) (.slice none 0 0) (.bool false) g1
  have h2 := below_sets (b := w.heap.size + 1) (Nat.le_succ _) [.int .i64 9, .int .i64 k, .int .i64 0, .int .i64 0, .slice none 0 0, .string ⟨#[]⟩, .int .i64 0, .int .i64 0, .slice none 0 0, .slice none 0 0, .bool false] 0 W1 h0
  have g3 : (W1.setCells (w.heap.size + 1) 0 [.int .i64 9, .int .i64 k, .int .i64 0, .int .i64 0, .slice none 0 0, .string ⟨#[]⟩, .int .i64 0, .int .i64 0, .slice none 0 0, .slice none 0 0, .bool false]).heap[w.heap.size]? = _ := ((below_sets (b := w.heap.size + 1) (Nat.le_refl _) [.int .i64 9, .int .i64 k, .int .i64 0, .int .i64 0, .slice none 0 0, .string ⟨#[]⟩, .int .i64 0, .int .i64 0, .slice none 0 0, .slice none 0 0, .bool false] 0 W1 (Below.refl _ _)).block w.heap.size (Nat.lt_succ_self _)).trans g0
  obtain ⟨W2, hW2⟩ : ∃ W2, W1.setCells (w.heap.size + 1) 0 [.int .i64 9, .int .i64 k, .int .i64 0, .int .i64 0, .slice none 0 0, .string ⟨#[]⟩, .int .i64 0, .int .i64 0, .slice none 0 0, .slice none 0 0, .bool false] = W2 := ⟨_, rfl⟩
  rw [hW2] at g2 h2 g3
  rw [← hW1] at hW2
  refine bp_at (congrArg World.drew hW2) ?_
  clear hW2 hW1 g0 h0 g1
  replace g3 : W2.drew.heap[w.heap.size]? = _ := g3
  replace g2 : W2.drew.heap[w.heap.size + 1]? = _ := g2
  replace h2 := h2.drew
  generalize W2.drew = W3 at g3 g2 h2 ⊢
  have k0 := cell_of_block g3 0 _ rfl
  have l0 := cell_of_block g2 0 _ rfl
  have k1 := cell_of_block g3 1 _ rfl
  have l1 := cell_of_block g2 1 _ rfl
  have k2 := cell_of_block g3 2 _ rfl
  have l2 := cell_of_block g2 2 _ rfl
  have k3 := cell_of_block g3 3 _ rfl
  have l3 := cell_of_block g2 3 _ rfl
  have k4 := cell_of_block g3 4 _ rfl
  have l4 := cell_of_block g2 4 _ rfl
  have k5 := cell_of_block g3 5 _ rfl
  have l5 := cell_of_block g2 5 _ rfl
  have k6 := cell_of_block g3 6 _ rfl
  have l6 := cell_of_block g2 6 _ rfl
  have k7 := cell_of_block g3 7 _ rfl
  have l7 := cell_of_block g2 7 _ rfl
  have k8 := cell_of_block g3 8 _ rfl
  have l8 := cell_of_block g2 8 _ rfl
  have k9 := cell_of_block g3 9 _ rfl
  have l9 := cell_of_block g2 9 _ rfl
  have k10 := cell_of_block g3 10 _ rfl
  have l10 := cell_of_block g2 10 _ rfl
  refine bodyPost_ret (v := .tuple #[tickE k, tickE k]) (by simp [results, Tryz.results7, go_sem, tickE, evV, k0, l0, k1, l1, k2, l2, k3, l3, k4, l4, k5, l5, k6, l6, k7, l7, k8, l8, k9, l9, k10, l10]) rfl ?_
  exact ⟨rfl, h2⟩
end Go.Proofs.YtoekofanmgdbmaaGreatDoor
