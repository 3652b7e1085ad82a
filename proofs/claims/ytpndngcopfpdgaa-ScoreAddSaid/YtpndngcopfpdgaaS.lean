/- Contracts of the functions of chapter 6 that have no table: Best, part, Left of the program and of the reference, within, known, Name of chapter 2. -/
import Derived.Test.YtpndngcopfpdgaaProg
import Derived.Test.YtpndngcopfpdgaaW
set_option linter.unusedVariables false
set_option linter.unusedSimpArgs false
namespace Go.Proofs.Ytpndngcopfpdgaa
open Go.RowKit
/-- Is number k better than number b? -/
def better (xs : List ByteArray) (ss : List Int) (b : Int) (k : Nat) : Bool :=
  decide (b < 0) || decide (ss.getD b.toNat 0 < ss.getD k 0) || (ss.getD k 0 == ss.getD b.toNat 0 && Op.bytesLess (xs.getD k ByteArray.empty).toList (xs.getD b.toNat ByteArray.empty).toList)
def bestTo (xs : List ByteArray) (ss : List Int) : Nat → Int
  | 0 => -1
  | k + 1 => if better xs ss (bestTo xs ss k) k = true then (k : Int) else bestTo xs ss k
theorem bestTo_bd (xs : List ByteArray) (ss : List Int) : ∀ k, -1 ≤ bestTo xs ss k ∧ bestTo xs ss k < (k : Int) ∧ (0 < k → 0 ≤ bestTo xs ss k)
  | 0 => by simp [bestTo]
  | k + 1 => by
    have h := bestTo_bd xs ss k
    unfold bestTo
    split
    · omega
    · rename_i hb
      by_cases hk : 0 < k
      · have := h.2.2 hk; omega
      · obtain rfl : k = 0 := by omega
        exact absurd (by simp [better, bestTo]) hb

set_option maxHeartbeats 1000000 in
theorem best_pos (n g0 o0 c0 g1 o1 c1 : Nat) (xs : List ByteArray) (ss : List Int) (hm : n ≤ 4611686018427387904) (w : World)
    (h0 : ∀ j, j < n → w.cell? ⟨g0, o0 + j, none⟩ = some (.string (xs.getD j ByteArray.empty))) (h1 : ∀ j, j < n → w.cell? ⟨g1, o1 + j, none⟩ = some (.int .i64 (ss.getD j 0))) :
    Calls Try.prog 13 #[.slice (some ⟨g0, o0, none⟩) n c0, .slice (some ⟨g1, o1, none⟩) n c1] w fun e w' => ∃ q, e = .returned (.int .i64 (bestTo xs ss n)) ∧ w' = w.drewN q := by
  have H0 := Lib.hid h0
  have H1 := Lib.hid h1
  clear h0 h1
  go_enter Try.func13, Try.ntmps13
  go_wp2
  go_loopw [5, 10] (fun b i wr => ∃ k q : Nat, k ≤ n ∧ i = .int .i64 k ∧ b = .int .i64 (bestTo xs ss k) ∧ wr = w.drewN q) (fun _ i _ => n - (intOf i).toNat)
  case atStart => exact ⟨0, 0, Nat.zero_le _, rfl, rfl, rfl⟩
  case round =>
    obtain ⟨k, q, hk, rfl, hb, rfl⟩ := hrel
    have hbd := bestTo_bd xs ss k
    obtain ⟨b, hbe⟩ : ∃ b, b = bestTo xs ss k := ⟨_, rfl⟩
    have HS : bestTo xs ss (k + 1) = if better xs ss (bestTo xs ss k) k = true then (k : Int) else bestTo xs ss k := rfl
    rw [← hbe] at hb hbd HS
    have HB := Lib.hid hbe
    have HS' := Lib.hid HS
    clear HS hbe
    subst hb
    by_cases hlt : k < n
    · have a1 := H1.out k hlt
      have a0 := H0.out k hlt
      by_cases hb0 : b < 0
      · have d0 : decide (b < 0) = true := decide_eq_true hb0
        go_wp2
        go_quiet (fail)
        go_wp2
        go_roundw
        case rel => exact ⟨k + 1, _, by omega, by go_num, by rw [HS'.out, if_pos (by simp [better, d0])], rfl⟩
        case measure => simp [intOf]; omega
      · obtain ⟨m, rfl⟩ : ∃ m : Nat, b = (m : Int) := ⟨b.toNat, by omega⟩
        have hmk : m < k := by omega
        have b1 := H1.out m (by omega)
        have b0 := H0.out m (by omega)
        have im : (m : Int) < (n : Int) := by omega
        have ik : (k : Int) < (n : Int) := by omega
        have d0 : decide ((m : Int) < 0) = false := decide_eq_false hb0
        have HS2 : Hid (bestTo xs ss (k + 1) = if (decide (ss.getD m 0 < ss.getD k 0) || (ss.getD k 0 == ss.getD m 0 && Op.bytesLess (xs.getD k ByteArray.empty).toList (xs.getD m ByteArray.empty).toList)) = true then (k : Int) else m) := by
          rw [Hid, HS'.out, better, Int.toNat_natCast, d0, Bool.false_or]
        clear HS'
        generalize ss.getD m 0 = sm at *
        generalize ss.getD k 0 = sk at *
        generalize xs.getD m ByteArray.empty = xm at *
        generalize xs.getD k ByteArray.empty = xk at *
        by_cases h2 : sm < sk
        · have d2 : decide (sm < sk) = true := decide_eq_true h2
          go_wp2
          go_quiet (fail)
          go_wp2
          go_roundw
          case rel => exact ⟨k + 1, _, by omega, by go_num, by rw [HS2.out, d2]; rfl, rfl⟩
          case measure => simp [intOf]; omega
        · have d2 : decide (sm < sk) = false := decide_eq_false h2
          by_cases h3 : sk = sm
          · have d3 : (sk == sm) = true := beq_iff_eq.mpr h3
            clear h2 h3
            cases h4 : Op.bytesLess xk.toList xm.toList
            · go_wp2
              go_quiet (fail)
              go_wp2
              go_roundw
              case rel => exact ⟨k + 1, _, by omega, by go_num, by rw [HS2.out, d2, d3, h4]; rfl, rfl⟩
              case measure => simp [intOf]; omega
            · go_wp2
              go_quiet (fail)
              go_wp2
              go_roundw
              case rel => exact ⟨k + 1, _, by omega, by go_num, by rw [HS2.out, d2, d3, h4]; rfl, rfl⟩
              case measure => simp [intOf]; omega
          · have d3 : (sk == sm) = false := beq_eq_false_iff_ne.mpr h3
            go_wp2
            go_quiet (fail)
            go_wp2
            go_roundw
            case rel => exact ⟨k + 1, _, by omega, by go_num, by rw [HS2.out, d2, d3]; rfl, rfl⟩
            case measure => simp [intOf]; omega
    · obtain rfl : n = k := by omega
      go_wp2
      go_ret
      exact ⟨q, ret_int HB.out, rfl⟩

def partF (m u n : Int) : Int := if m = 0 then 100 else wrap64 (Int.tdiv (wrap64 (100 * (wrap64 ((wrap64 (m - u)) - n)))) m)

theorem part_any (a b c : Int) (w : World) : Calls Try.prog 17 #[.int .i64 a, .int .i64 b, .int .i64 c] w fun e w' => e = .returned (.int .i64 (partF a b c)) ∧ w = w' := by
  by_cases h : a = 0
  · have h0 : (a == 0) = true := beq_iff_eq.mpr h
    go_enter Try.func17, Try.ntmps17
    go_wp2
    go_ret
    exact ⟨by simp [partF, h], rfl⟩
  · have h0 : (a == 0) = false := beq_eq_false_iff_ne.mpr h
    go_enter Try.func17, Try.ntmps17
    go_wp2
    go_ret
    exact ⟨by simp [partF, h], rfl⟩

def leftF (a b c d e f : Int) : Int := wrap64 (partF a c e + partF b d f)
theorem left_any (a b c d e f : Int) (w : World) : Calls Try.prog 10 #[.agg #[.int .i64 a, .int .i64 b], .agg #[.int .i64 c, .int .i64 d], .agg #[.int .i64 e, .int .i64 f]] w fun r w' => r = .returned (.int .i64 (leftF a b c d e f)) ∧ Below w.heap.size w w' := by
  go_enter Try.func10, Try.ntmps10
  go_wp2
  go_quiet ((go_at_call 17; exact Calls.quiet_of_same ((part_any _ _ _ _).mono fun _ _ ⟨h, h'⟩ => ⟨h, h'.symm⟩)))
  go_wp2
  go_ret
  exact ⟨rfl, below_drewN' (below_alloc' (below_alloc' (below_alloc' (Below.refl _ _) _) _) _) _⟩

theorem leftF_wrap (a b c d e f : Int) : wrap64 (leftF a b c d e f) = leftF a b c d e f := wrap_wrap _

theorem rpart_any (a b c : Int) (w : World) : Calls Try.prog 19 #[.int .i64 a, .int .i64 b, .int .i64 c] w fun e w' => e = .returned (.int .i64 (partF a b c)) ∧ w = w' := by
  by_cases h : a = 0
  · have h0 : (a == 0) = true := beq_iff_eq.mpr h
    go_enter Try.func19, Try.ntmps19
    go_wp2
    go_ret
    exact ⟨by simp [partF, h], rfl⟩
  · have h0 : (a == 0) = false := beq_eq_false_iff_ne.mpr h
    go_enter Try.func19, Try.ntmps19
    go_wp2
    go_ret
    exact ⟨by simp [partF, h], rfl⟩

theorem rleft_any (a b c d e f : Int) (w : World) : Calls Try.prog 16 #[.agg #[.int .i64 a, .int .i64 b], .agg #[.int .i64 c, .int .i64 d], .agg #[.int .i64 e, .int .i64 f]] w fun r w' => r = .returned (.int .i64 (leftF a b c d e f)) ∧ Below w.heap.size w w' := by
  go_enter Try.func16, Try.ntmps16
  go_wp2
  go_quiet ((go_at_call 19; exact Calls.quiet_of_same ((rpart_any _ _ _ _).mono fun _ _ ⟨h, h'⟩ => ⟨h, h'.symm⟩)))
  go_wp2
  go_ret
  exact ⟨rfl, below_drewN' (below_alloc' (below_alloc' (below_alloc' (Below.refl _ _) _) _) _) _⟩


theorem within_any (a m : Int) (hm : 0 < m) (hb : m ≤ 4611686018427387904) (w : World) : Calls Try.prog 12 #[.int .i64 a, .int .i64 m] w fun e w' => e = .returned (.int .i64 (a % m)) ∧ w = w' := by
  have t1 := Int.tmod_lt_of_pos a hm
  have t2 := Int.lt_tmod_of_pos a hm
  have hz : (m == 0) = false := beq_eq_false_iff_ne.mpr (by omega)
  have em : Hid (a % m = if a.tmod m < 0 then a.tmod m + m else a.tmod m) := by
    unfold Hid
    have e1 : a % m = (a.tmod m) % m := by
      have := Int.mul_tdiv_add_tmod a m
      calc a % m = (m * a.tdiv m + a.tmod m) % m := by rw [this]
        _ = (a.tmod m) % m := by rw [Int.add_comm, Int.add_mul_emod_self_left]
    rw [e1]
    split
    · rw [← Int.add_emod_right]; exact Int.emod_eq_of_lt (by omega) (by omega)
    · exact Int.emod_eq_of_lt (by omega) (by omega)
  by_cases h : a.tmod m < 0
  · go_enter Try.func12, Try.ntmps12
    go_wp2
    go_ret
    exact ⟨ret_int (by rw [em.out, if_pos h]), rfl⟩
  · go_enter Try.func12, Try.ntmps12
    go_wp2
    go_ret
    exact ⟨ret_int (by rw [em.out, if_neg (by omega)]), rfl⟩


theorem best_nil (w : World) : Calls Try.prog 13 #[.slice none 0 0, .slice none 0 0] w fun e w' => e = .returned (.int .i64 (-1)) ∧ w' = w := by
  go_enter Try.func13, Try.ntmps13
  go_wp2
  go_loop [5, 10] (fun b i => i = .int .i64 0 ∧ b = .int .i64 (-1)) (fun _ i => 0)
  case atStart => exact ⟨rfl, rfl⟩
  case round =>
    obtain ⟨rfl, rfl⟩ := hrel
    go_wp2
    go_ret
    exact ⟨rfl, rfl⟩

theorem known_any (w : World) : Calls Try.prog 8 #[] w fun e w' => e = .returned (.bool true) ∧ Below w.heap.size w w' := by
  have e : leftF 4 2 1 0 1 1 = 100 := by simp [leftF, partF, wrap64]
  go_enter Try.func8, Try.ntmps8
  go_wp2_with (first | (go_at_call 13; refine (best_nil _).mono ?_; rintro e w' ⟨rfl, rfl⟩) | (go_at_call 10; refine (left_any _ _ _ _ _ _ _).mono ?_; rintro r w1 ⟨rfl, hb⟩; have HB := Lib.hid hb; clear hb))
  go_ret
  exact ⟨rfl, HB.out⟩
end Go.Proofs.Ytpndngcopfpdgaa
