/- The play chapter's known(): a script of nothing, and one of a tick. -/
import Derived.Test.YtikamehjeaoilaaGreatDoorTh
set_option linter.unusedVariables false
set_option linter.unusedSimpArgs false
namespace Go.Proofs.YtikamehjeaoilaaGreatDoor
open Go.RowKit

theorem within15_any (a m : Int) (hm : 0 < m) (hb : m ≤ 4611686018427387904) (w : World) : Calls Tryz.prog 7 #[.int .i64 a, .int .i64 m] w fun e w' => e = .returned (.int .i64 (a % m)) ∧ w = w' := by
  have t1 := Int.tmod_lt_of_pos a hm
  have t2 := Int.lt_tmod_of_pos a hm
  have hz : (m == 0) = false := beq_eq_false_iff_ne.mpr (by omega)
  have em : Hid (a % m = if a.tmod m < 0 then a.tmod m + m else a.tmod m) := by
    unfold Hid
    have e1 : a % m = (a.tmod m) % m := by
      have := Int.mul_tdiv_add_tmod a m
      calc a % m = (m * a.tdiv m + a.tmod m) % m := by rw [this]
        _ = (a.tmod m) % m := by rw [Int.add_comm, Int.add_mul_emod_self_left]
    rw [e1]
    split
    · rw [← Int.add_emod_right]; exact Int.emod_eq_of_lt (by omega) (by omega)
    · exact Int.emod_eq_of_lt (by omega) (by omega)
  by_cases h : a.tmod m < 0
  · go_enter Tryz.func7, Tryz.ntmps7
    go_wp2
    go_ret
    exact ⟨ret_int (by rw [em.out, if_pos h]), rfl⟩
  · go_enter Tryz.func7, Tryz.ntmps7
    go_wp2
    go_ret
    exact ⟨ret_int (by rw [em.out, if_neg (by omega)]), rfl⟩



def knownL : List UInt8 := [116, 105, 99, 107, 32, 48, 10, 120, 10]
theorem split_known : splitC 10 knownL = [tickL, [120], []] := by decide +kernel
theorem ans_known : ansAll (splitC 10 knownL) (splitC 10 knownL).length = [⟨#[111, 107]⟩, ⟨#[102, 111, 114, 109]⟩] := by decide +kernel
theorem ans_nil : ansAll (splitC 10 []) (splitC 10 []).length = [] := by decide +kernel
set_option maxHeartbeats 4000000 in
set_option maxRecDepth 100000 in
theorem known_any (w : World) (ht : Tabs w) : Calls Tryz.prog 4 #[] w fun e w' => e = .returned (.bool true) ∧ Below w.heap.size w w' := by
  have HT := Lib.hid ht
  clear ht
  go_enter Tryz.func4, Tryz.ntmps4
  go_wp2_with fail
  refine (run_plain 1 (by omega) (by omega) 0 (by omega) (by omega) [] (by simp) (fun l hl => .inl (List.mem_singleton.1 hl)) w HT.out).mono ?_
  rintro e w1 ⟨v, rfl, hown, hb1⟩
  rw [ans_nil] at hown
  have HO := Lib.hid hown
  have HB := Lib.hid hb1
  clear hown hb1
  go_wp2_with fail
  refine (run_plain 1 (by omega) (by omega) 0 (by omega) (by omega) knownL (by decide) (fun l hl => by
    rw [split_known] at hl
    simp only [List.mem_cons, List.not_mem_nil, or_false] at hl
    rcases hl with rfl | rfl | rfl
    · exact .inr (.inl rfl)
    · exact .inr (.inr rfl)
    · exact .inl rfl) w1 (HT.out.below HB.out)).mono ?_
  rintro e w2 ⟨u, rfl, hown, hb2⟩
  rw [ans_known] at hown
  have HB2 := Lib.hid (below_call HB.out hb2)
  have hv := own_forms (own_below HO.out hb2)
  obtain ⟨g, cap, rfl, hg, hgs⟩ := (own_forms hown).resolve_left (by rintro ⟨_, h, _⟩; exact absurd h (by decide))
  have c0 := hown.cellAt 0 (by decide)
  have c1 := hown.cellAt 1 (by decide)
  simp only [List.map_cons, List.map_nil, List.getElem?_cons_zero, List.getElem?_cons_succ] at c0 c1
  have hvl : v = .slice none 0 0 ∨ ∃ g cap, v = .slice (some ⟨g, 0, none⟩) 0 cap := by
    rcases hv with ⟨h, _⟩ | ⟨g, cap, h, _⟩
    · exact .inl h
    · exact .inr ⟨g, cap, h⟩
  clear hown hb2 hv HO
  rcases hvl with rfl | ⟨g', cap', rfl⟩
  all_goals
    go_wp2
    go_ret
    exact ⟨rfl, HB2.out⟩
end Go.Proofs.YtikamehjeaoilaaGreatDoor
