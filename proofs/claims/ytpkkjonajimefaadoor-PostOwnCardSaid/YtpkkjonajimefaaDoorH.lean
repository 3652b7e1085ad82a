/- The laws' 'within': the rest of a division, never below zero. -/
import Derived.Test.YtpkkjonajimefaaDoorProg
import Derived.Test.YtpkkjonajimefaaDoorW
set_option linter.unusedVariables false
set_option linter.unusedSimpArgs false
namespace Go.Proofs.YtpkkjonajimefaaDoor
open Go.RowKit

theorem within12_any (a m : Int) (hm : 0 < m) (hb : m ≤ 4611686018427387904) (w : World) : Calls Tryd.prog 12 #[.int .i64 a, .int .i64 m] w fun e w' => e = .returned (.int .i64 (a % m)) ∧ w = w' := by
  have t1 := Int.tmod_lt_of_pos a hm
  have t2 := Int.lt_tmod_of_pos a hm
  have hz : (m == 0) = false := beq_eq_false_iff_ne.mpr (by omega)
  have em : Hid (a % m = if a.tmod m < 0 then a.tmod m + m else a.tmod m) := by
    unfold Hid
    have e1 : a % m = (a.tmod m) % m := by
      have := Int.mul_tdiv_add_tmod a m
      calc a % m = (m * a.tdiv m + a.tmod m) % m := by rw [this]
        _ = (a.tmod m) % m := by rw [Int.add_comm, Int.add_mul_emod_self_left]
    rw [e1]
    split
    · rw [← Int.add_emod_right]; exact Int.emod_eq_of_lt (by omega) (by omega)
    · exact Int.emod_eq_of_lt (by omega) (by omega)
  by_cases h : a.tmod m < 0
  · go_enter Tryd.func12, Tryd.ntmps12
    go_wp2
    go_ret
    exact ⟨ret_int (by rw [em.out, if_pos h]), rfl⟩
  · go_enter Tryd.func12, Tryd.ntmps12
    go_wp2
    go_ret
    exact ⟨ret_int (by rw [em.out, if_neg (by omega)]), rfl⟩


theorem within4_any (a m : Int) (hm : 0 < m) (hb : m ≤ 4611686018427387904) (w : World) : Calls Tryd.prog 38 #[.int .i64 a, .int .i64 m] w fun e w' => e = .returned (.int .i64 (a % m)) ∧ w = w' := by
  have t1 := Int.tmod_lt_of_pos a hm
  have t2 := Int.lt_tmod_of_pos a hm
  have hz : (m == 0) = false := beq_eq_false_iff_ne.mpr (by omega)
  have em : Hid (a % m = if a.tmod m < 0 then a.tmod m + m else a.tmod m) := by
    unfold Hid
    have e1 : a % m = (a.tmod m) % m := by
      have := Int.mul_tdiv_add_tmod a m
      calc a % m = (m * a.tdiv m + a.tmod m) % m := by rw [this]
        _ = (a.tmod m) % m := by rw [Int.add_comm, Int.add_mul_emod_self_left]
    rw [e1]
    split
    · rw [← Int.add_emod_right]; exact Int.emod_eq_of_lt (by omega) (by omega)
    · exact Int.emod_eq_of_lt (by omega) (by omega)
  by_cases h : a.tmod m < 0
  · go_enter Tryd.func38, Tryd.ntmps38
    go_wp2
    go_ret
    exact ⟨ret_int (by rw [em.out, if_pos h]), rfl⟩
  · go_enter Tryd.func38, Tryd.ntmps38
    go_wp2
    go_ret
    exact ⟨ret_int (by rw [em.out, if_neg (by omega)]), rfl⟩


theorem within3_any (a m : Int) (hm : 0 < m) (hb : m ≤ 4611686018427387904) (w : World) : Calls Tryd.prog 47 #[.int .i64 a, .int .i64 m] w fun e w' => e = .returned (.int .i64 (a % m)) ∧ w = w' := by
  have t1 := Int.tmod_lt_of_pos a hm
  have t2 := Int.lt_tmod_of_pos a hm
  have hz : (m == 0) = false := beq_eq_false_iff_ne.mpr (by omega)
  have em : Hid (a % m = if a.tmod m < 0 then a.tmod m + m else a.tmod m) := by
    unfold Hid
    have e1 : a % m = (a.tmod m) % m := by
      have := Int.mul_tdiv_add_tmod a m
      calc a % m = (m * a.tdiv m + a.tmod m) % m := by rw [this]
        _ = (a.tmod m) % m := by rw [Int.add_comm, Int.add_mul_emod_self_left]
    rw [e1]
    split
    · rw [← Int.add_emod_right]; exact Int.emod_eq_of_lt (by omega) (by omega)
    · exact Int.emod_eq_of_lt (by omega) (by omega)
  by_cases h : a.tmod m < 0
  · go_enter Tryd.func47, Tryd.ntmps47
    go_wp2
    go_ret
    exact ⟨ret_int (by rw [em.out, if_pos h]), rfl⟩
  · go_enter Tryd.func47, Tryd.ntmps47
    go_wp2
    go_ret
    exact ⟨ret_int (by rw [em.out, if_neg (by omega)]), rfl⟩


theorem within2_any (a m : Int) (hm : 0 < m) (hb : m ≤ 4611686018427387904) (w : World) : Calls Tryd.prog 53 #[.int .i64 a, .int .i64 m] w fun e w' => e = .returned (.int .i64 (a % m)) ∧ w = w' := by
  have t1 := Int.tmod_lt_of_pos a hm
  have t2 := Int.lt_tmod_of_pos a hm
  have hz : (m == 0) = false := beq_eq_false_iff_ne.mpr (by omega)
  have em : Hid (a % m = if a.tmod m < 0 then a.tmod m + m else a.tmod m) := by
    unfold Hid
    have e1 : a % m = (a.tmod m) % m := by
      have := Int.mul_tdiv_add_tmod a m
      calc a % m = (m * a.tdiv m + a.tmod m) % m := by rw [this]
        _ = (a.tmod m) % m := by rw [Int.add_comm, Int.add_mul_emod_self_left]
    rw [e1]
    split
    · rw [← Int.add_emod_right]; exact Int.emod_eq_of_lt (by omega) (by omega)
    · exact Int.emod_eq_of_lt (by omega) (by omega)
  by_cases h : a.tmod m < 0
  · go_enter Tryd.func53, Tryd.ntmps53
    go_wp2
    go_ret
    exact ⟨ret_int (by rw [em.out, if_pos h]), rfl⟩
  · go_enter Tryd.func53, Tryd.ntmps53
    go_wp2
    go_ret
    exact ⟨ret_int (by rw [em.out, if_neg (by omega)]), rfl⟩


end Go.Proofs.YtpkkjonajimefaaDoor
