/- The walk of the law ScoreAll, for every input, where the table score.tops lies as it was laid. -/
import Derived.Test.YtpndngcopfpdgaaDoorC
set_option linter.unusedVariables false
set_option linter.unusedSimpArgs false
namespace Go.Proofs.YtpndngcopfpdgaaDoor
open Go.RowKit

def sz (k : Nat) : Int := [12, 1000, 1099511627777, 1].getD k 0
theorem sz_bd : ∀ k, k < 4 → 0 < sz k ∧ sz k ≤ 1099511627777 := by decide

set_option maxHeartbeats 2000000 in
theorem all_any (a b c d e f mode pods : Int) (w : World) (ht : Tops w) : Calls Tryd.prog 3 #[.int .i64 a, .int .i64 b, .int .i64 c, .int .i64 d, .int .i64 e, .int .i64 f, .int .i64 mode, .int .i64 pods] w fun r w' => 
    r = .returned (.bool true) ∧ Below w.heap.size w w' := by
  have HT := Lib.hid ht
  clear ht
  go_enter Tryd.func3, Tryd.ntmps3
  go_wp2_with ((go_at_call 7; refine (known_any _).mono ?_; rintro r w1 ⟨rfl, hb⟩; have HB1 := Lib.hid hb; clear hb))
  go_loopw [18] (fun i wr => ∃ k : Nat, k ≤ 4 ∧ i = .int .i64 k ∧ (∀ j, j < 4 → wr.cell? ⟨w1.heap.size, j, none⟩ = some (.int .i64 (sz j))) ∧ Tops wr ∧ Below w.heap.size w wr) (fun i _ => 4 - (intOf i).toNat)
  case atStart =>
    have hb := below_alloc' HB1.out (.cells #[.int .i64 12, .int .i64 1000, .int .i64 1099511627777, .int .i64 1] 3 (0, 0))
    refine ⟨0, by omega, rfl, fun j hj => ?_, HT.out.below hb, hb⟩
    exact cell_of_block (alloc_at _ _) j _ (by match j, hj with | 0, _ => rfl | 1, _ => rfl | 2, _ => rfl | 3, _ => rfl)
  case round =>
    obtain ⟨k, hk, rfl, hsz, htr, hbr⟩ := hrel
    have HTR := Lib.hid htr
    have HBR := Lib.hid hbr
    have HSZ := Lib.hid hsz
    clear htr hbr hsz
    by_cases hlt : k < 4
    · have ik : (k : Int) < 4 := by omega
      have hc := HSZ.out k hlt
      obtain ⟨sb1, sb2⟩ := sz_bd k hlt
      generalize sz k = m at *
      have HE := three_any a b c d e f m (by omega) (by omega)
      have hp1 := Int.emod_nonneg pods (show (1001 : Int) ≠ 0 by omega)
      have hp2 := Int.emod_lt_of_pos pods (show (0 : Int) < 1001 by omega)
      generalize c % (a % m + 1) = u0 at *
      generalize d % (b % m + 1) = u1 at *
      generalize a % m = x0 at *
      generalize b % m = x1 at *
      generalize e % (x0 - u0 + 1) = n0 at *
      generalize f % (x1 - u1 + 1) = n1 at *
      have HEE := Lib.hid HE
      clear HE
      go_wp2_with (first | (go_at_call 8; refine (HEE.out _).mono ?_; rintro r w2 ⟨rfl, hb⟩; have HB2 := Lib.hid hb; clear hb) | (go_at_call 9; refine (within_any _ _ (by omega) (by omega) _).mono ?_; rintro e w' ⟨rfl, rfl⟩))
      generalize hw3 : World.alloc _ _ = w3
      have hb3 : Below wr.heap.size wr w3 := by rw [← hw3]; exact below_alloc' (below_alloc' (below_alloc' HB2.out _) _) _
      have z0 : w3.heap[w2.heap.size]? = some (.cells #[.int .i64 x0, .int .i64 x1] 25) := by rw [← hw3]; simp only [heap_alloc_get, World.size_alloc]; (repeat (first | rw [if_pos rfl] | rw [if_pos trivial] | rw [if_neg (by omega)]))
      have z1 : w3.heap[w2.heap.size + 1]? = some (.cells #[.int .i64 u0, .int .i64 u1] 25) := by rw [← hw3]; simp only [heap_alloc_get, World.size_alloc]; (repeat (first | rw [if_pos rfl] | rw [if_pos trivial] | rw [if_neg (by omega)]))
      have z2 : w3.heap[w2.heap.size + 1 + 1]? = some (.cells #[.int .i64 n0, .int .i64 n1] 25) := by rw [← hw3]; simp only [heap_alloc_get, World.size_alloc]; (repeat (first | rw [if_pos rfl] | rw [if_pos trivial] | rw [if_neg (by omega)]))
      clear hw3
      have y00 := cell_of_block z0 0 (.int .i64 x0) rfl
      have y01 := cell_of_block z0 1 (.int .i64 x1) rfl
      have y10 := cell_of_block z1 0 (.int .i64 u0) rfl
      have y11 := cell_of_block z1 1 (.int .i64 u1) rfl
      have y20 := cell_of_block z2 0 (.int .i64 n0) rfl
      have y21 := cell_of_block z2 1 (.int .i64 n1) rfl
      have hS := keep6 ⟨y00, y01, y10, y11, y20, y21, HTR.out.below hb3, hb3⟩ (Below.refl _ w3).drew
      clear hb3 z0 z1 z2 y00 y01 y10 y11 y20 y21 hc
      generalize w2.heap.size = B at *
      go_region_held3 (fun w' => w'.cell? ⟨B, 0, none⟩ = some (.int .i64 x0) ∧ w'.cell? ⟨B, 1, none⟩ = some (.int .i64 x1) ∧ w'.cell? ⟨B + 1, 0, none⟩ = some (.int .i64 u0) ∧ w'.cell? ⟨B + 1, 1, none⟩ = some (.int .i64 u1) ∧ w'.cell? ⟨B + 1 + 1, 0, none⟩ = some (.int .i64 n0) ∧ w'.cell? ⟨B + 1 + 1, 1, none⟩ = some (.int .i64 n1) ∧ Tops w' ∧ Below wr.heap.size wr w') (first | exact hS | exact keep6 (by assumption) (by assumption) | assumption) (first | (go_at_call 9; refine (within_any _ _ (by omega) (by omega) _).mono ?_; rintro e w' ⟨rfl, rfl⟩) | (go_at_call 12; refine (score_held (by assumption) rfl).mono ?_; rintro r w4 ⟨rfl, hb⟩) | (go_at_call 13; refine (rscore_any _ _ _ _ _ _ _ _ _).mono ?_; rintro r w4 ⟨rfl, hb⟩) | (go_at_call 10; refine (left_any _ _ _ _ _ _ _).mono ?_; rintro r w4 ⟨rfl, hb⟩) | (go_at_call 11; refine (rleft_any _ _ _ _ _ _ _).mono ?_; rintro r w4 ⟨rfl, hb⟩))
      rename_i w5 hh
      have hb5 : Below wr.heap.size wr _ := hh.2.2.2.2.2.2.2
      have HB5 := Lib.hid hb5
      clear hb5 hh
      go_wp2
      go_roundw
      case rel => exact ⟨k + 1, by omega, by go_num, fun j hj => (HB5.out.cell (World.block_lt_of_cell? wr _ (HSZ.out j hj))).trans (HSZ.out j hj), HTR.out.below HB5.out, below_call HBR.out HB5.out⟩
      case measure => simp [intOf]; omega
    · obtain rfl : k = 4 := by omega
      go_wp2
      go_ret
      exact ⟨rfl, HBR.out⟩
end Go.Proofs.YtpndngcopfpdgaaDoor
