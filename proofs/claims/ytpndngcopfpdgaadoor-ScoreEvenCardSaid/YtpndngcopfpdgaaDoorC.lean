/- The walk of the law ScoreTurned, for every input, where the table score.tops lies as it was laid. -/
import Derived.Test.YtpndngcopfpdgaaDoorB
set_option linter.unusedVariables false
set_option linter.unusedSimpArgs false
namespace Go.Proofs.YtpndngcopfpdgaaDoor
open Go.RowKit

def prt (m u n : Int) : Int := if m = 0 then 100 else 100 * (m - u - n) / m
theorem partF_eq {m u n : Int} (hm : 0 ≤ m) (hu : 0 ≤ u) (hn : 0 ≤ n) (hs : u + n ≤ m) (hb : m ≤ 2199023255552) : partF m u n = prt m u n := by
  unfold partF prt
  by_cases h : m = 0
  · rw [if_pos h, if_pos h]
  · rw [if_neg h, if_neg h, wid (x := m - u) (by omega) (by omega), wid (x := m - u - n) (by omega) (by omega), wid (x := 100 * (m - u - n)) (by omega) (by omega),
      Int.tdiv_eq_ediv_of_nonneg (by omega)]
    have h1 : 0 ≤ 100 * (m - u - n) / m := Int.ediv_nonneg (by omega) (by omega)
    have h2 : 100 * (m - u - n) / m ≤ 100 * (m - u - n) := Int.ediv_le_self _ (by omega)
    rw [wid (by omega) (by omega)]
theorem prt_bd {m u n : Int} (hm : 0 ≤ m) (hu : 0 ≤ u) (hn : 0 ≤ n) (hs : u + n ≤ m) : 0 ≤ prt m u n ∧ prt m u n ≤ 100 := by
  unfold prt
  by_cases h : m = 0
  · rw [if_pos h]; omega
  · rw [if_neg h]
    exact ⟨Int.ediv_nonneg (by omega) (by omega), Int.ediv_le_of_le_mul (by omega) (by omega)⟩
theorem leftF_bd {m0 m1 u0 u1 n0 n1 : Int} (hm : 0 ≤ m0) (hu : 0 ≤ u0) (hn : 0 ≤ n0) (hs : u0 + n0 ≤ m0) (hb : m0 ≤ 2199023255552)
    (hm' : 0 ≤ m1) (hu' : 0 ≤ u1) (hn' : 0 ≤ n1) (hs' : u1 + n1 ≤ m1) (hb' : m1 ≤ 2199023255552) : 0 ≤ leftF m0 m1 u0 u1 n0 n1 ∧ leftF m0 m1 u0 u1 n0 n1 ≤ 200 := by
  unfold leftF
  rw [partF_eq hm hu hn hs hb, partF_eq hm' hu' hn' hs' hb']
  have := prt_bd hm hu hn hs
  have := prt_bd hm' hu' hn' hs'
  rw [wid (by omega) (by omega)]
  omega

theorem keep6 {v w w' : World} {p0 p1 p2 p3 p4 p5 : Addr} {v0 v1 v2 v3 v4 v5 : Value} (h : w.cell? p0 = some v0 ∧ w.cell? p1 = some v1 ∧ w.cell? p2 = some v2 ∧ w.cell? p3 = some v3 ∧ w.cell? p4 = some v4 ∧ w.cell? p5 = some v5 ∧ Tops w ∧ Below v.heap.size v w)
    (hb : Below w.heap.size w w') : w'.cell? p0 = some v0 ∧ w'.cell? p1 = some v1 ∧ w'.cell? p2 = some v2 ∧ w'.cell? p3 = some v3 ∧ w'.cell? p4 = some v4 ∧ w'.cell? p5 = some v5 ∧ Tops w' ∧ Below v.heap.size v w' := by
  obtain ⟨h0, h1, h2, h3, h4, h5, ht, hv⟩ := h
  have k : ∀ {p v}, w.cell? p = some v → w'.cell? p = some v := fun h => (hb.cell (World.block_lt_of_cell? w _ h)).trans h
  exact ⟨k h0, k h1, k h2, k h3, k h4, k h5, ht.below hb, below_call hv hb⟩
theorem score_held {mode a b c d e f pods r : Int} {w : World} {c0 c1 c2 c3 c4 c5 : Prop} {c6 : Prop} (h : c0 ∧ c1 ∧ c2 ∧ c3 ∧ c4 ∧ c5 ∧ Tops w ∧ c6) (hr : scoreF mode (leftF a b c d e f) pods = r) : Calls Tryd.prog 12 #[.int .i64 mode, .agg #[.int .i64 a, .int .i64 b], .agg #[.int .i64 c, .int .i64 d], .agg #[.int .i64 e, .int .i64 f], .int .i64 pods] w
    fun r' w' => r' = .returned (.int .i64 r) ∧ Below w.heap.size w w' := hr ▸ score_any mode a b c d e f pods w h.2.2.2.2.2.2.1

set_option maxHeartbeats 1000000 in
theorem turned_any (a b c d e f pods mode : Int) (w : World) (ht : Tops w) : Calls Tryd.prog 4 #[.int .i64 a, .int .i64 b, .int .i64 c, .int .i64 d, .int .i64 e, .int .i64 f, .int .i64 pods, .int .i64 mode] w fun r w' => 
    r = .returned (.bool true) ∧ Below w.heap.size w w' := by
  have HT := Lib.hid ht
  clear ht
  have a1 := Int.emod_nonneg a (show (1000 : Int) ≠ 0 by omega)
  have a2 := Int.emod_lt_of_pos a (show (0 : Int) < 1000 by omega)
  have b1 := Int.emod_nonneg b (show (1000 : Int) ≠ 0 by omega)
  have b2 := Int.emod_lt_of_pos b (show (0 : Int) < 1000 by omega)
  have c1 := Int.emod_nonneg c (show a % 1000 + 1 ≠ 0 by omega)
  have c2 := Int.emod_lt_of_pos c (show 0 < a % 1000 + 1 by omega)
  have d1 := Int.emod_nonneg d (show b % 1000 + 1 ≠ 0 by omega)
  have d2 := Int.emod_lt_of_pos d (show 0 < b % 1000 + 1 by omega)
  have e1 := Int.emod_nonneg e (show a % 1000 - c % (a % 1000 + 1) + 1 ≠ 0 by omega)
  have e2 := Int.emod_lt_of_pos e (show 0 < a % 1000 - c % (a % 1000 + 1) + 1 by omega)
  have f1 := Int.emod_nonneg f (show b % 1000 - d % (b % 1000 + 1) + 1 ≠ 0 by omega)
  have f2 := Int.emod_lt_of_pos f (show 0 < b % 1000 - d % (b % 1000 + 1) + 1 by omega)
  have p1 := Int.emod_nonneg pods (show (1000 : Int) ≠ 0 by omega)
  have p2 := Int.emod_lt_of_pos pods (show (0 : Int) < 1000 by omega)
  have m1 := Int.emod_nonneg mode (show (100 : Int) ≠ 0 by omega)
  have m2 := Int.emod_lt_of_pos mode (show (0 : Int) < 100 by omega)
  have o1 := Int.emod_nonneg mode (show (9 : Int) ≠ 0 by omega)
  have o2 := Int.emod_lt_of_pos mode (show (0 : Int) < 9 by omega)
  have HE := three_any a b c d e f 1000 (by omega) (by omega)
  generalize c % (a % 1000 + 1) = u0 at *
  generalize d % (b % 1000 + 1) = u1 at *
  generalize a % 1000 = x0 at *
  generalize b % 1000 = x1 at *
  generalize e % (x0 - u0 + 1) = n0 at *
  generalize f % (x1 - u1 + 1) = n1 at *
  have lb := leftF_bd a1 c1 e1 (show u0 + n0 ≤ x0 by omega) (by omega) b1 d1 f1 (show u1 + n1 ≤ x1 by omega) (by omega)
  obtain ⟨L, hL⟩ : ∃ x, x = leftF x0 x1 u0 u1 n0 n1 := ⟨_, rfl⟩
  rw [← hL] at lb
  have s0 : ∀ k, scoreF 0 L k = L := fun k => by unfold scoreF; rw [if_pos rfl]
  have s1 : ∀ k, scoreF 1 L k = 200 - L := fun k => by unfold scoreF; rw [if_neg (by omega), if_pos rfl, wid (by omega) (by omega)]
  have s2 : ∀ k, 0 ≤ k → k < 1000 → scoreF 2 L k = 1000 - k := fun k h h' => by unfold scoreF; rw [if_neg (by omega), if_neg (by omega), if_pos rfl, wid (by omega) (by omega)]
  have s3 : ∀ m k, m < 0 ∨ 2 < m → scoreF m L k = 0 := fun m k h => by unfold scoreF; rw [if_neg (by omega), if_neg (by omega), if_neg (by omega)]
  have S0 := Lib.hid s0
  have S1 := Lib.hid s1
  have S2 := Lib.hid s2
  have S3 := Lib.hid s3
  have HL := Lib.hid hL
  have HEE := Lib.hid HE
  clear s0 s1 s2 s3 hL HE
  go_enter Tryd.func4, Tryd.ntmps4
  go_wp2_with (first | (go_at_call 7; refine (known_any _).mono ?_; rintro r w1 ⟨rfl, hb⟩; have HB1 := Lib.hid hb; clear hb) | (go_at_call 8; refine (HEE.out _).mono ?_; rintro r w2 ⟨rfl, hb⟩; have HB2 := Lib.hid hb; clear hb) | (go_at_call 9; refine (within_any _ _ (by omega) (by omega) _).mono ?_; rintro e w' ⟨rfl, rfl⟩))
  generalize hw3 : World.alloc _ _ = w3
  have hb3 : Below w.heap.size w w3 := by rw [← hw3]; exact below_alloc' (below_alloc' (below_alloc' (below_call HB1.out HB2.out) _) _) _
  have z0 : w3.heap[w2.heap.size]? = some (.cells #[.int .i64 x0, .int .i64 x1] 25) := by rw [← hw3]; simp only [heap_alloc_get, World.size_alloc]; (repeat (first | rw [if_pos rfl] | rw [if_pos trivial] | rw [if_neg (by omega)]))
  have z1 : w3.heap[w2.heap.size + 1]? = some (.cells #[.int .i64 u0, .int .i64 u1] 25) := by rw [← hw3]; simp only [heap_alloc_get, World.size_alloc]; (repeat (first | rw [if_pos rfl] | rw [if_pos trivial] | rw [if_neg (by omega)]))
  have z2 : w3.heap[w2.heap.size + 1 + 1]? = some (.cells #[.int .i64 n0, .int .i64 n1] 25) := by rw [← hw3]; simp only [heap_alloc_get, World.size_alloc]; (repeat (first | rw [if_pos rfl] | rw [if_pos trivial] | rw [if_neg (by omega)]))
  clear hw3
  have y00 := cell_of_block z0 0 (.int .i64 x0) rfl
  have y01 := cell_of_block z0 1 (.int .i64 x1) rfl
  have y10 := cell_of_block z1 0 (.int .i64 u0) rfl
  have y11 := cell_of_block z1 1 (.int .i64 u1) rfl
  have y20 := cell_of_block z2 0 (.int .i64 n0) rfl
  have y21 := cell_of_block z2 1 (.int .i64 n1) rfl
  have hS := keep6 ⟨y00, y01, y10, y11, y20, y21, HT.out.below hb3, hb3⟩ (Below.refl _ w3).drew
  have HB3 := Lib.hid hb3
  clear hb3 z0 z1 z2 y00 y01 y10 y11 y20 y21
  generalize w2.heap.size = B at *
  have k9 : IntKind.i64.wrap (L + (200 - L)) = 200 := (kwid (by omega) (by omega)).trans (by omega)
  have k8 : IntKind.i64.wrap (1000 - pods % 1000) = 1000 - pods % 1000 := kwid (by omega) (by omega)
  have k7 : IntKind.i64.wrap (-1 - mode % 9) = -1 - mode % 9 := kwid (by omega) (by omega)
  go_region_held3 (fun w' => w'.cell? ⟨B, 0, none⟩ = some (.int .i64 x0) ∧ w'.cell? ⟨B, 1, none⟩ = some (.int .i64 x1) ∧ w'.cell? ⟨B + 1, 0, none⟩ = some (.int .i64 u0) ∧ w'.cell? ⟨B + 1, 1, none⟩ = some (.int .i64 u1) ∧ w'.cell? ⟨B + 1 + 1, 0, none⟩ = some (.int .i64 n0) ∧ w'.cell? ⟨B + 1 + 1, 1, none⟩ = some (.int .i64 n1) ∧ Tops w' ∧ Below w.heap.size w w') (first | exact hS | exact keep6 (by assumption) (by assumption) | assumption) (first | (go_at_call 9; refine (within_any _ _ (by omega) (by omega) _).mono ?_; rintro e w' ⟨rfl, rfl⟩) | (go_at_call 12; refine (score_held (r := L) (by assumption) ?_).mono ?_; (focus (rw [← HL.out]; exact S0.out _)); rintro r w4 ⟨rfl, hb⟩) | (go_at_call 12; refine (score_held (r := 200 - L) (by assumption) ?_).mono ?_; (focus (rw [← HL.out]; exact S1.out _)); rintro r w4 ⟨rfl, hb⟩) | (go_at_call 12; refine (score_held (r := 1000 - pods % 1000) (by assumption) ?_).mono ?_; (focus (rw [← HL.out]; exact S2.out _ (by omega) (by omega))); rintro r w4 ⟨rfl, hb⟩) | (go_at_call 12; refine (score_held (r := 0) (by assumption) ?_).mono ?_; (focus (rw [← HL.out]; exact S3.out _ _ (by omega))); rintro r w4 ⟨rfl, hb⟩))
  go_wp2
  go_ret
  exact ⟨rfl, (by assumption : _ ∧ _ ∧ _ ∧ _ ∧ _ ∧ _ ∧ _ ∧ Below w.heap.size w _).2.2.2.2.2.2.2⟩
end Go.Proofs.YtpndngcopfpdgaaDoor
