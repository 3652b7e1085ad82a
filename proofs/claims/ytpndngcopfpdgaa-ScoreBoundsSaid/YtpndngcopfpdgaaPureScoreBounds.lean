/- For every six whole numbers the law ScoreBounds of chapter 6 answers true and leaves its arguments as they were. No conditions. -/
import Derived.Test.YtpndngcopfpdgaaPScoreBoundsx3
namespace Go.Proofs.Ytpndngcopfpdgaa.Pure
open Go.RowKit Go.Proofs.Ytpndngcopfpdgaa.PScoreBounds Go.Proofs.YtpndngcopfpdgaaW.PrintWords Go.Proofs.YtpndngcopfpdgaaW.PrintLast

theorem wid {x : Int} (h1 : -9223372036854775808 ≤ x) (h2 : x < 9223372036854775808) : wrap64 x = x := by unfold wrap64; omega

theorem within_some (a m : Int) (hm : 0 < m) (hb : m ≤ 4611686018427387904) : ∃ r, joinerylaw6_within.f a m = some r ∧ 0 ≤ r ∧ r < m := by
  have h1 := Int.tmod_lt_of_pos a hm
  have h2 := Int.lt_tmod_of_pos a hm
  unfold joinerylaw6_within.f
  rw [if_neg (by omega)]
  by_cases h : Int.tmod a m < 0
  · rw [if_pos h, wid (by omega) (by omega)]; exact ⟨_, rfl, by omega, by omega⟩
  · rw [if_neg h]; exact ⟨_, rfl, by omega, h1⟩

def prt (m u n : Int) : Int := if m = 0 then 100 else 100 * (m - u - n) / m

theorem part_eq {m u n : Int} (hm : 0 ≤ m) (hu : 0 ≤ u) (hn : 0 ≤ n) (hs : u + n ≤ m) (hb : m ≤ 2199023255552) : score_part.f m u n = some (prt m u n) := by
  unfold score_part.f prt
  by_cases h : m = 0
  · rw [if_pos h, if_pos h]
  · rw [if_neg h, if_neg h, wid (x := m - u) (by omega) (by omega), wid (x := m - u - n) (by omega) (by omega), wid (x := 100 * (m - u - n)) (by omega) (by omega),
      Int.tdiv_eq_ediv_of_nonneg (by omega)]
    have h1 : 0 ≤ 100 * (m - u - n) / m := Int.ediv_nonneg (by omega) (by omega)
    have h2 : 100 * (m - u - n) / m ≤ 100 * (m - u - n) := Int.ediv_le_self _ (by omega)
    rw [wid (by omega) (by omega)]

theorem prt_bd {m u n : Int} (hm : 0 ≤ m) (hu : 0 ≤ u) (hn : 0 ≤ n) (hs : u + n ≤ m) : 0 ≤ prt m u n ∧ prt m u n ≤ 100 := by
  unfold prt
  by_cases h : m = 0
  · rw [if_pos h]; omega
  · rw [if_neg h]
    exact ⟨Int.ediv_nonneg (by omega) (by omega), Int.ediv_le_of_le_mul (by omega) (by omega)⟩

theorem left_eq {m0 m1 u0 u1 n0 n1 : Int} (hm : 0 ≤ m0) (hu : 0 ≤ u0) (hn : 0 ≤ n0) (hs : u0 + n0 ≤ m0) (hb : m0 ≤ 2199023255552)
    (hm' : 0 ≤ m1) (hu' : 0 ≤ u1) (hn' : 0 ≤ n1) (hs' : u1 + n1 ≤ m1) (hb' : m1 ≤ 2199023255552) :
    score_Left.f m0 m1 u0 u1 n0 n1 = some (prt m0 u0 n0 + prt m1 u1 n1) := by
  unfold score_Left.f
  rw [part_eq hm hu hn hs hb, part_eq hm' hu' hn' hs' hb']
  simp only [Option.bind_some]
  have := prt_bd hm hu hn hs
  have := prt_bd hm' hu' hn' hs'
  rw [wid (by omega) (by omega)]

theorem three_some (a b c d e f most : Int) (h0 : 0 < most) (h1 : most ≤ 2199023255552) : ∃ x0 x1 u0 u1 n0 n1, joinerylaw6_three.f a b c d e f most = some (x0, x1, u0, u1, n0, n1) ∧
    0 ≤ x0 ∧ x0 < most ∧ 0 ≤ x1 ∧ x1 < most ∧ 0 ≤ u0 ∧ 0 ≤ u1 ∧ 0 ≤ n0 ∧ 0 ≤ n1 ∧ u0 + n0 ≤ x0 ∧ u1 + n1 ≤ x1 := by
  unfold joinerylaw6_three.f
  obtain ⟨x0, e0, l0, g0⟩ := within_some a most h0 (by omega)
  obtain ⟨x1, e1, l1, g1⟩ := within_some b most h0 (by omega)
  rw [e0, e1]; simp only [Option.bind_some]
  rw [wid (x := x0 + 1) (by omega) (by omega), wid (x := x1 + 1) (by omega) (by omega)]
  obtain ⟨u0, e2, l2, g2⟩ := within_some c (x0 + 1) (by omega) (by omega)
  obtain ⟨u1, e3, l3, g3⟩ := within_some d (x1 + 1) (by omega) (by omega)
  rw [e2, e3]; simp only [Option.bind_some]
  rw [wid (x := x0 - u0) (by omega) (by omega), wid (x := x1 - u1) (by omega) (by omega), wid (x := x0 - u0 + 1) (by omega) (by omega), wid (x := x1 - u1 + 1) (by omega) (by omega)]
  obtain ⟨n0, e4, l4, g4⟩ := within_some e (x0 - u0 + 1) (by omega) (by omega)
  obtain ⟨n1, e5, l5, g5⟩ := within_some f (x1 - u1 + 1) (by omega) (by omega)
  rw [e4, e5]; simp only [Option.bind_some]
  exact ⟨_, _, _, _, _, _, rfl, l0, g0, l1, g1, l2, l3, l4, l5, by omega, by omega⟩

theorem known_true : joinerylaw6_known.f 1 = some true := by
  unfold joinerylaw6_known.f
  rw [left_eq (by omega) (by omega) (by omega) (by omega) (by omega) (by omega) (by omega) (by omega) (by omega) (by omega)]
  rfl

theorem prt_full {m : Int} : prt m 0 0 = 100 := by
  unfold prt
  by_cases h : m = 0
  · rw [if_pos h]
  · rw [if_neg h, show 100 * (m - 0 - 0) = m * 100 by omega]
    exact Int.mul_ediv_cancel_left _ h

theorem prt_used {m : Int} (h : 0 < m) : prt m m 0 = 0 := by
  unfold prt
  rw [if_neg (by omega), show 100 * (m - m - 0) = 0 by omega]; simp

theorem prt_need {m : Int} (h : 0 < m) : prt m 0 m = 0 := by
  unfold prt
  rw [if_neg (by omega), show 100 * (m - 0 - m) = 0 by omega]; simp

theorem ScoreBounds : joinerylaw6_ScoreBounds.Pure := by
  intro a b c d e f _ _ _ _ _ _
  refine ⟨1, ?_⟩
  unfold joinerylaw6_ScoreBounds.f
  rw [known_true]; simp only [Option.bind_some, if_true]
  obtain ⟨x0, x1, u0, u1, n0, n1, e0, h0, h1, h2, h3, h4, h5, h6, h7, h8, h9⟩ := three_some a b c d e f 1000 (by omega) (by omega)
  rw [e0]; simp only [Option.bind_some]
  have b0 := prt_bd h0 h4 h6 h8
  have b1 := prt_bd h2 h5 h7 h9
  rw [left_eq h0 h4 h6 h8 (by omega) h2 h5 h7 h9 (by omega)]; simp only [Option.bind_some]
  rw [if_pos (by omega), if_pos (by omega), wid (x := x0 + 1) (by omega) (by omega), wid (x := x1 + 1) (by omega) (by omega)]
  rw [left_eq (by omega) (by omega) (by omega) (by omega) (by omega) (by omega) (by omega) (by omega) (by omega) (by omega)]; simp only [Option.bind_some]
  rw [prt_full, prt_full, if_pos (by omega)]
  rw [left_eq (by omega) (by omega) (by omega) (by omega) (by omega) (by omega) (by omega) (by omega) (by omega) (by omega)]; simp only [Option.bind_some]
  rw [prt_used (by omega), prt_used (by omega), if_pos (by omega)]
  rw [left_eq (by omega) (by omega) (by omega) (by omega) (by omega) (by omega) (by omega) (by omega) (by omega) (by omega)]; simp only [Option.bind_some]
  rw [prt_need (by omega), prt_need (by omega), if_pos (by omega)]
  rw [left_eq (by omega) (by omega) (by omega) (by omega) (by omega) (by omega) (by omega) (by omega) (by omega) (by omega)]; simp only [Option.bind_some]
  rw [prt_full]; rfl

end Go.Proofs.Ytpndngcopfpdgaa.Pure
