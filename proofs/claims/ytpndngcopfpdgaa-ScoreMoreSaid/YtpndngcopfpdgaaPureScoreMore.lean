/- For every seven whole numbers the law ScoreMore of chapter 6 answers true and leaves its arguments as they were. No conditions. -/
import Derived.Test.YtpndngcopfpdgaaPScoreMorex3
namespace Go.Proofs.Ytpndngcopfpdgaa.Pure
open Go.RowKit Go.Proofs.Ytpndngcopfpdgaa.PScoreMore Go.Proofs.YtpndngcopfpdgaaW.PrintWords Go.Proofs.YtpndngcopfpdgaaW.PrintLast

theorem wid {x : Int} (h1 : -9223372036854775808 ≤ x) (h2 : x < 9223372036854775808) : wrap64 x = x := by unfold wrap64; omega

theorem within_some (a m : Int) (hm : 0 < m) (hb : m ≤ 4611686018427387904) : ∃ r, joinerylaw6_within.f a m = some r ∧ 0 ≤ r ∧ r < m := by
  have h1 := Int.tmod_lt_of_pos a hm
  have h2 := Int.lt_tmod_of_pos a hm
  unfold joinerylaw6_within.f
  rw [if_neg (by omega)]
  by_cases h : Int.tmod a m < 0
  · rw [if_pos h, wid (by omega) (by omega)]; exact ⟨_, rfl, by omega, by omega⟩
  · rw [if_neg h]; exact ⟨_, rfl, by omega, h1⟩

def prt (m u n : Int) : Int := if m = 0 then 100 else 100 * (m - u - n) / m

theorem part_eq {m u n : Int} (hm : 0 ≤ m) (hu : 0 ≤ u) (hn : 0 ≤ n) (hs : u + n ≤ m) (hb : m ≤ 2199023255552) : score_part.f m u n = some (prt m u n) := by
  unfold score_part.f prt
  by_cases h : m = 0
  · rw [if_pos h, if_pos h]
  · rw [if_neg h, if_neg h, wid (x := m - u) (by omega) (by omega), wid (x := m - u - n) (by omega) (by omega), wid (x := 100 * (m - u - n)) (by omega) (by omega),
      Int.tdiv_eq_ediv_of_nonneg (by omega)]
    have h1 : 0 ≤ 100 * (m - u - n) / m := Int.ediv_nonneg (by omega) (by omega)
    have h2 : 100 * (m - u - n) / m ≤ 100 * (m - u - n) := Int.ediv_le_self _ (by omega)
    rw [wid (by omega) (by omega)]

theorem prt_bd {m u n : Int} (hm : 0 ≤ m) (hu : 0 ≤ u) (hn : 0 ≤ n) (hs : u + n ≤ m) : 0 ≤ prt m u n ∧ prt m u n ≤ 100 := by
  unfold prt
  by_cases h : m = 0
  · rw [if_pos h]; omega
  · rw [if_neg h]
    exact ⟨Int.ediv_nonneg (by omega) (by omega), Int.ediv_le_of_le_mul (by omega) (by omega)⟩

theorem left_eq {m0 m1 u0 u1 n0 n1 : Int} (hm : 0 ≤ m0) (hu : 0 ≤ u0) (hn : 0 ≤ n0) (hs : u0 + n0 ≤ m0) (hb : m0 ≤ 2199023255552)
    (hm' : 0 ≤ m1) (hu' : 0 ≤ u1) (hn' : 0 ≤ n1) (hs' : u1 + n1 ≤ m1) (hb' : m1 ≤ 2199023255552) :
    score_Left.f m0 m1 u0 u1 n0 n1 = some (prt m0 u0 n0 + prt m1 u1 n1) := by
  unfold score_Left.f
  rw [part_eq hm hu hn hs hb, part_eq hm' hu' hn' hs' hb']
  simp only [Option.bind_some]
  have := prt_bd hm hu hn hs
  have := prt_bd hm' hu' hn' hs'
  rw [wid (by omega) (by omega)]

theorem three_some (a b c d e f most : Int) (h0 : 0 < most) (h1 : most ≤ 2199023255552) : ∃ x0 x1 u0 u1 n0 n1, joinerylaw6_three.f a b c d e f most = some (x0, x1, u0, u1, n0, n1) ∧
    0 ≤ x0 ∧ x0 < most ∧ 0 ≤ x1 ∧ x1 < most ∧ 0 ≤ u0 ∧ 0 ≤ u1 ∧ 0 ≤ n0 ∧ 0 ≤ n1 ∧ u0 + n0 ≤ x0 ∧ u1 + n1 ≤ x1 := by
  unfold joinerylaw6_three.f
  obtain ⟨x0, e0, l0, g0⟩ := within_some a most h0 (by omega)
  obtain ⟨x1, e1, l1, g1⟩ := within_some b most h0 (by omega)
  rw [e0, e1]; simp only [Option.bind_some]
  rw [wid (x := x0 + 1) (by omega) (by omega), wid (x := x1 + 1) (by omega) (by omega)]
  obtain ⟨u0, e2, l2, g2⟩ := within_some c (x0 + 1) (by omega) (by omega)
  obtain ⟨u1, e3, l3, g3⟩ := within_some d (x1 + 1) (by omega) (by omega)
  rw [e2, e3]; simp only [Option.bind_some]
  rw [wid (x := x0 - u0) (by omega) (by omega), wid (x := x1 - u1) (by omega) (by omega), wid (x := x0 - u0 + 1) (by omega) (by omega), wid (x := x1 - u1 + 1) (by omega) (by omega)]
  obtain ⟨n0, e4, l4, g4⟩ := within_some e (x0 - u0 + 1) (by omega) (by omega)
  obtain ⟨n1, e5, l5, g5⟩ := within_some f (x1 - u1 + 1) (by omega) (by omega)
  rw [e4, e5]; simp only [Option.bind_some]
  exact ⟨_, _, _, _, _, _, rfl, l0, g0, l1, g1, l2, l3, l4, l5, by omega, by omega⟩

theorem known_true : joinerylaw6_known.f 1 = some true := by
  unfold joinerylaw6_known.f
  rw [left_eq (by omega) (by omega) (by omega) (by omega) (by omega) (by omega) (by omega) (by omega) (by omega) (by omega)]
  rfl

theorem rleft_eq {m0 m1 u0 u1 n0 n1 : Int} : joineryref6_Left.f m0 m1 u0 u1 n0 n1 = score_Left.f m0 m1 u0 u1 n0 n1 := rfl

theorem prt_scaled {m u n k : Int} (hk : 0 < k) : prt (m * k) (u * k) (n * k) = prt m u n := by
  unfold prt
  by_cases h : m = 0
  · subst h; simp
  · have h1 : m * k ≠ 0 := Int.mul_ne_zero h (by omega)
    rw [if_neg h1, if_neg h, ← Int.sub_mul, ← Int.sub_mul, ← Int.mul_assoc]
    exact Int.mul_ediv_mul_of_pos_left _ _ hk

theorem scaled_eq {a b k : Int} (h0 : 0 ≤ a) (h1 : a ≤ 1000) (h2 : 0 ≤ b) (h3 : b ≤ 1000) (h4 : 0 ≤ k) (h5 : k ≤ 50) : joinerylaw6_scaled.f a b k = some (a * k, b * k) ∧ 0 ≤ a * k ∧ a * k ≤ 50000 ∧ 0 ≤ b * k ∧ b * k ≤ 50000 := by
  have p0 : 0 ≤ a * k := Int.mul_nonneg h0 h4
  have p1 : 0 ≤ b * k := Int.mul_nonneg h2 h4
  have q0 : a * k ≤ 1000 * 50 := Int.mul_le_mul h1 h5 h4 (by omega)
  have q1 : b * k ≤ 1000 * 50 := Int.mul_le_mul h3 h5 h4 (by omega)
  refine ⟨?_, p0, by omega, p1, by omega⟩
  unfold joinerylaw6_scaled.f
  rw [wid (by omega) (by omega), wid (by omega) (by omega)]

theorem ScoreMore : joinerylaw6_ScoreMore.Pure := by
  intro a b c d e f g _ _ _ _ _ _ _
  refine ⟨1, ?_⟩
  unfold joinerylaw6_ScoreMore.f
  rw [known_true]; simp only [Option.bind_some, if_true]
  obtain ⟨x0, x1, u0, u1, n0, n1, e0, h0, h1, h2, h3, h4, h5, h6, h7, h8, h9⟩ := three_some a b c d e f 1000 (by omega) (by omega)
  rw [e0]; simp only [Option.bind_some]
  obtain ⟨r, e1, hr0, hr1⟩ := within_some g 50 (by omega) (by omega)
  rw [e1]; simp only [Option.bind_some]
  rw [wid (x := 1 + r) (by omega) (by omega)]
  obtain ⟨s0, i0, i1, i2, i3⟩ := scaled_eq (a := x0) (b := x1) (k := 1 + r) (by omega) (by omega) (by omega) (by omega) (by omega) (by omega)
  obtain ⟨s1, i4, i5, i6, i7⟩ := scaled_eq (a := u0) (b := u1) (k := 1 + r) (by omega) (by omega) (by omega) (by omega) (by omega) (by omega)
  obtain ⟨s2, i8, i9, i10, i11⟩ := scaled_eq (a := n0) (b := n1) (k := 1 + r) (by omega) (by omega) (by omega) (by omega) (by omega) (by omega)
  rw [s0, s1, s2]; simp only [Option.bind_some]
  have j0 : u0 * (1 + r) + n0 * (1 + r) ≤ x0 * (1 + r) := by rw [← Int.add_mul]; exact Int.mul_le_mul_of_nonneg_right h8 (by omega)
  have j1 : u1 * (1 + r) + n1 * (1 + r) ≤ x1 * (1 + r) := by rw [← Int.add_mul]; exact Int.mul_le_mul_of_nonneg_right h9 (by omega)
  rw [left_eq i0 i4 i8 j0 (by omega) i2 i6 i10 j1 (by omega)]; simp only [Option.bind_some]
  rw [rleft_eq, left_eq h0 h4 h6 h8 (by omega) h2 h5 h7 h9 (by omega)]; simp only [Option.bind_some]
  rw [prt_scaled (by omega), prt_scaled (by omega), if_pos rfl]; simp

end Go.Proofs.Ytpndngcopfpdgaa.Pure
