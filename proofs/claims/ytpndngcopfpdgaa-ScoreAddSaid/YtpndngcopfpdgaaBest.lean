/- The walk of the law ScoreBest, for every three slices of whole numbers. -/
import Derived.Test.YtpndngcopfpdgaaS
set_option linter.unusedVariables false
set_option linter.unusedSimpArgs false
namespace Go.Proofs.Ytpndngcopfpdgaa
open Go.RowKit

/-! ### The order of texts -/
theorem less_irrefl : ∀ a : List UInt8, Op.bytesLess a a = false
  | [] => rfl
  | x :: a => by simp [Op.bytesLess, less_irrefl a]
theorem less_trans : ∀ a b c : List UInt8, Op.bytesLess a b = true → Op.bytesLess b c = true → Op.bytesLess a c = true
  | _, [], _, h, _ => by simp [Op.bytesLess] at h
  | _, _ :: _, [], _, h => by simp [Op.bytesLess] at h
  | [], _ :: _, _ :: _, _, _ => by simp [Op.bytesLess]
  | x :: a, y :: b, z :: c, h, h' => by
    simp only [Op.bytesLess, Bool.or_eq_true, decide_eq_true_eq, Bool.and_eq_true, beq_iff_eq] at *
    rcases h with h | ⟨rfl, h⟩
    · rcases h' with h' | ⟨rfl, h'⟩
      · exact .inl (UInt8.lt_trans h h')
      · exact .inl h
    · rcases h' with h' | ⟨rfl, h'⟩
      · exact .inl h'
      · exact .inr ⟨rfl, less_trans a b c h h'⟩
theorem less_total : ∀ a b : List UInt8, Op.bytesLess a b = true ∨ a = b ∨ Op.bytesLess b a = true
  | [], [] => .inr (.inl rfl)
  | [], _ :: _ => .inl (by simp [Op.bytesLess])
  | _ :: _, [] => .inr (.inr (by simp [Op.bytesLess]))
  | x :: a, y :: b => by
    have tri : x < y ∨ y < x ∨ x = y := by
      rcases Nat.lt_trichotomy x.toNat y.toNat with h | h | h
      · exact .inl (UInt8.lt_iff_toNat_lt.2 h)
      · exact .inr (.inr (UInt8.toNat_inj.1 h))
      · exact .inr (.inl (UInt8.lt_iff_toNat_lt.2 h))
    rcases tri with h | h | rfl
    · exact .inl (by simp [Op.bytesLess, h])
    · exact .inr (.inr (by simp [Op.bytesLess, h]))
    · rcases less_total a b with h | rfl | h
      · exact .inl (by simp [Op.bytesLess, h])
      · exact .inr (.inl rfl)
      · exact .inr (.inr (by simp [Op.bytesLess, h]))

/-- Number i is no better than number b. -/
def NoBetter (xs : List ByteArray) (ss : List Int) (b i : Nat) : Prop :=
  ss.getD i 0 < ss.getD b 0 ∨ (ss.getD i 0 = ss.getD b 0 ∧ (Op.bytesLess (xs.getD b ByteArray.empty).toList (xs.getD i ByteArray.empty).toList = true ∨ ((xs.getD b ByteArray.empty).toList = (xs.getD i ByteArray.empty).toList ∧ b ≤ i)))
theorem noBetter_refl (xs : List ByteArray) (ss : List Int) (b : Nat) : NoBetter xs ss b b := .inr ⟨rfl, .inr ⟨rfl, Nat.le_refl _⟩⟩
theorem bestTo_spec (xs : List ByteArray) (ss : List Int) : ∀ n, 0 < n → ∀ i, i < n → NoBetter xs ss (bestTo xs ss n).toNat i
  | 0, h, _, _ => absurd h (by omega)
  | n + 1, _, i, hi => by
    have hbd := bestTo_bd xs ss n
    by_cases h0 : n = 0
    · subst h0
      obtain rfl : i = 0 := by omega
      have : bestTo xs ss 1 = 0 := by simp [bestTo, better]
      rw [this]
      exact noBetter_refl _ _ _
    · have ih := bestTo_spec xs ss n (by omega)
      have hb0 := hbd.2.2 (by omega)
      unfold bestTo
      generalize hb : (bestTo xs ss n).toNat = b at *
      have hbi : bestTo xs ss n = (b : Int) := by omega
      rw [hbi]
      split
      · rename_i hbet
        rw [Int.toNat_natCast]
        simp only [better, Int.toNat_natCast, Bool.or_eq_true, decide_eq_true_eq, Bool.and_eq_true, beq_iff_eq] at hbet
        by_cases hin : i = n
        · subst hin; exact noBetter_refl _ _ _
        · have h1 := ih i (by omega)
          rcases hbet with (h2 | h2) | ⟨h2, h3⟩
          · omega
          · rcases h1 with h1 | ⟨h1, _⟩
            · exact .inl (by omega)
            · exact .inl (by omega)
          · rcases h1 with h1 | ⟨h1, h4 | ⟨h4, _⟩⟩
            · exact .inl (by omega)
            · exact .inr ⟨by omega, .inl (less_trans _ _ _ h3 h4)⟩
            · exact .inr ⟨by omega, .inl (by rw [← h4]; exact h3)⟩
      · rename_i hbet
        rw [Int.toNat_natCast]
        simp only [better, Int.toNat_natCast, Bool.or_eq_true, decide_eq_true_eq, Bool.and_eq_true, beq_iff_eq, not_or, not_and] at hbet
        by_cases hin : i = n
        · subst hin
          obtain ⟨⟨h1, h2⟩, h3⟩ := hbet
          rcases Int.lt_trichotomy (ss.getD i 0) (ss.getD b 0) with h | h | h
          · exact .inl h
          · refine .inr ⟨h, ?_⟩
            rcases less_total (xs.getD b ByteArray.empty).toList (xs.getD i ByteArray.empty).toList with h4 | h4 | h4
            · exact .inl h4
            · exact .inr ⟨h4, by omega⟩
            · exact absurd h4 (h3 h)
          · exact absurd h h2
        · exact ih i (by omega)

/-! ### The functions beside -/
theorem rbest_nil (w : World) : Calls Try.prog 14 #[.slice none 0 0, .slice none 0 0] w fun e w' => e = .returned (.int .i64 (-1)) ∧ w = w' := by
  go_enter Try.func14, Try.ntmps14
  go_wp2
  go_loop [5, 6] (fun b i => i = .int .i64 0 ∧ b = .int .i64 (-1)) (fun _ i => 0)
  case atStart => exact ⟨rfl, rfl⟩
  case round =>
    obtain ⟨rfl, rfl⟩ := hrel
    go_wp2
    go_ret
    exact ⟨rfl, rfl⟩

set_option maxHeartbeats 1000000 in
theorem rbest_pos (n g0 o0 c0 g1 o1 c1 : Nat) (xs : List ByteArray) (ss : List Int) (hm : n ≤ 4611686018427387904) (w : World)
    (h0 : ∀ j, j < n → w.cell? ⟨g0, o0 + j, none⟩ = some (.string (xs.getD j ByteArray.empty))) (h1 : ∀ j, j < n → w.cell? ⟨g1, o1 + j, none⟩ = some (.int .i64 (ss.getD j 0))) :
    Calls Try.prog 14 #[.slice (some ⟨g0, o0, none⟩) n c0, .slice (some ⟨g1, o1, none⟩) n c1] w fun e w' => ∃ q, e = .returned (.int .i64 (bestTo xs ss n)) ∧ w' = w.drewN q := by
  have H0 := Lib.hid h0
  have H1 := Lib.hid h1
  clear h0 h1
  go_enter Try.func14, Try.ntmps14
  go_wp2
  go_loopw [5, 6] (fun b i wr => ∃ k q : Nat, k ≤ n ∧ i = .int .i64 k ∧ b = .int .i64 (bestTo xs ss k) ∧ wr = w.drewN q) (fun _ i _ => n - (intOf i).toNat)
  case atStart => exact ⟨0, 0, Nat.zero_le _, rfl, rfl, rfl⟩
  case round =>
    obtain ⟨k, q, hk, rfl, hb, rfl⟩ := hrel
    have hbd := bestTo_bd xs ss k
    obtain ⟨b, hbe⟩ : ∃ b, b = bestTo xs ss k := ⟨_, rfl⟩
    have HS : bestTo xs ss (k + 1) = if better xs ss (bestTo xs ss k) k = true then (k : Int) else bestTo xs ss k := rfl
    rw [← hbe] at hb hbd HS
    have HB := Lib.hid hbe
    have HS' := Lib.hid HS
    clear HS hbe
    subst hb
    by_cases hlt : k < n
    · have a1 := H1.out k hlt
      have a0 := H0.out k hlt
      by_cases hb0 : b < 0
      · have d0 : decide (b < 0) = true := decide_eq_true hb0
        go_wp2
        go_quiet (fail)
        go_wp2
        go_roundw
        case rel => exact ⟨k + 1, _, by omega, by go_num, by rw [HS'.out, if_pos (by simp [better, d0])], rfl⟩
        case measure => simp [intOf]; omega
      · obtain ⟨m, rfl⟩ : ∃ m : Nat, b = (m : Int) := ⟨b.toNat, by omega⟩
        have hmk : m < k := by omega
        have b1 := H1.out m (by omega)
        have b0 := H0.out m (by omega)
        have im : (m : Int) < (n : Int) := by omega
        have ik : (k : Int) < (n : Int) := by omega
        have d0 : decide ((m : Int) < 0) = false := decide_eq_false hb0
        have HS2 : Hid (bestTo xs ss (k + 1) = if (decide (ss.getD m 0 < ss.getD k 0) || (ss.getD k 0 == ss.getD m 0 && Op.bytesLess (xs.getD k ByteArray.empty).toList (xs.getD m ByteArray.empty).toList)) = true then (k : Int) else m) := by
          rw [Hid, HS'.out, better, Int.toNat_natCast, d0, Bool.false_or]
        clear HS'
        generalize ss.getD m 0 = sm at *
        generalize ss.getD k 0 = sk at *
        generalize xs.getD m ByteArray.empty = xm at *
        generalize xs.getD k ByteArray.empty = xk at *
        by_cases h2 : sm < sk
        · have d2 : decide (sm < sk) = true := decide_eq_true h2
          go_wp2
          go_quiet (fail)
          go_wp2
          go_roundw
          case rel => exact ⟨k + 1, _, by omega, by go_num, by rw [HS2.out, d2]; rfl, rfl⟩
          case measure => simp [intOf]; omega
        · have d2 : decide (sm < sk) = false := decide_eq_false h2
          by_cases h3 : sk = sm
          · have d3 : (sk == sm) = true := beq_iff_eq.mpr h3
            clear h2 h3
            cases h4 : Op.bytesLess xk.toList xm.toList
            · go_wp2
              go_quiet (fail)
              go_wp2
              go_roundw
              case rel => exact ⟨k + 1, _, by omega, by go_num, by rw [HS2.out, d2, d3, h4]; rfl, rfl⟩
              case measure => simp [intOf]; omega
            · go_wp2
              go_quiet (fail)
              go_wp2
              go_roundw
              case rel => exact ⟨k + 1, _, by omega, by go_num, by rw [HS2.out, d2, d3, h4]; rfl, rfl⟩
              case measure => simp [intOf]; omega
          · have d3 : (sk == sm) = false := beq_eq_false_iff_ne.mpr h3
            go_wp2
            go_quiet (fail)
            go_wp2
            go_roundw
            case rel => exact ⟨k + 1, _, by omega, by go_num, by rw [HS2.out, d2, d3]; rfl, rfl⟩
            case measure => simp [intOf]; omega
    · obtain rfl : n = k := by omega
      go_wp2
      go_ret
      exact ⟨q, ret_int HB.out, rfl⟩

theorem within2_any (a m : Int) (hm : 0 < m) (hb : m ≤ 4611686018427387904) (w : World) : Calls Try.prog 18 #[.int .i64 a, .int .i64 m] w fun e w' => e = .returned (.int .i64 (a % m)) ∧ w = w' := by
  have t1 := Int.tmod_lt_of_pos a hm
  have t2 := Int.lt_tmod_of_pos a hm
  have hz : (m == 0) = false := beq_eq_false_iff_ne.mpr (by omega)
  have em : Hid (a % m = if a.tmod m < 0 then a.tmod m + m else a.tmod m) := by
    unfold Hid
    have e1 : a % m = (a.tmod m) % m := by
      have := Int.mul_tdiv_add_tmod a m
      calc a % m = (m * a.tdiv m + a.tmod m) % m := by rw [this]
        _ = (a.tmod m) % m := by rw [Int.add_comm, Int.add_mul_emod_self_left]
    rw [e1]
    split
    · rw [← Int.add_emod_right]; exact Int.emod_eq_of_lt (by omega) (by omega)
    · exact Int.emod_eq_of_lt (by omega) (by omega)
  by_cases h : a.tmod m < 0
  · go_enter Try.func18, Try.ntmps18
    go_wp2
    go_ret
    exact ⟨ret_int (by rw [em.out, if_pos h]), rfl⟩
  · go_enter Try.func18, Try.ntmps18
    go_wp2
    go_ret
    exact ⟨ret_int (by rw [em.out, if_neg (by omega)]), rfl⟩

/-- The eight names of chapter 2's laws. -/
def name8 : List ByteArray := [⟨#[97]⟩, ⟨#[98]⟩, ⟨#[206, 177]⟩, ⟨#[207, 137, 57]⟩, ⟨#[110, 49]⟩, ⟨#[110, 50]⟩, ⟨#[206, 178, 206, 179, 206, 180, 206, 181, 206, 182, 206, 183, 206, 184, 206, 185]⟩, ⟨#[122, 122]⟩]
def nameOf (n : Int) : ByteArray := name8.getD (n % 8).toNat ByteArray.empty
theorem name_any (n : Int) (w : World) : Calls Try.prog 11 #[.int .i64 n] w fun e w' => e = .returned (.string (nameOf n)) ∧ Below w.heap.size w w' := by
  have p1 := Int.emod_nonneg n (show (8 : Int) ≠ 0 by omega)
  have p2 := Int.emod_lt_of_pos n (show (0 : Int) < 8 by omega)
  obtain ⟨k, hk⟩ : ∃ k : Nat, n % 8 = k := ⟨(n % 8).toNat, by omega⟩
  have ik : (k : Int) < 8 := by omega
  have HN : Hid (nameOf n = name8.getD k ByteArray.empty) := by unfold Hid nameOf; rw [hk, Int.toNat_natCast]
  have c : (w.alloc (.cells #[.string ⟨#[97]⟩, .string ⟨#[98]⟩, .string ⟨#[206, 177]⟩, .string ⟨#[207, 137, 57]⟩, .string ⟨#[110, 49]⟩, .string ⟨#[110, 50]⟩, .string ⟨#[206, 178, 206, 179, 206, 180, 206, 181, 206, 182, 206, 183, 206, 184, 206, 185]⟩, .string ⟨#[122, 122]⟩] 9)).cell? ⟨w.heap.size, k, none⟩ = some (.string (name8.getD k ByteArray.empty)) :=
    cell_of_block (alloc_at _ _) k _ (by have hk8 : k < 8 := by omega
                                         match k, hk8 with | 0, _ => rfl | 1, _ => rfl | 2, _ => rfl | 3, _ => rfl | 4, _ => rfl | 5, _ => rfl | 6, _ => rfl | 7, _ => rfl)
  generalize name8.getD k ByteArray.empty = s at *
  have HC := Lib.hid c
  have HK := Lib.hid hk
  clear c hk p1 p2
  go_enter Try.func11, Try.ntmps11
  go_wp2_with ((go_at_call 18; refine (within2_any _ _ (by omega) (by omega) _).mono ?_; rw [HK.out]; rintro e w' ⟨rfl, rfl⟩; have c := HC.out))
  go_ret
  exact ⟨ret_str HN.out.symm, below_alloc' (Below.refl _ _) _⟩

theorem info_s : (Try.prog.info? 9).map (fun i => (i.zero, i.size, i.bytes)) = some (some (.string ByteArray.empty), 1, 16) := by kernel_rfl
theorem info_i : (Try.prog.info? 3).map (fun i => (i.zero, i.size, i.bytes)) = some (some (.int .i64 0), 1, 8) := by kernel_rfl
theorem el_s : El Try.prog 30 9 (.string ByteArray.empty) 16 := ⟨Try.underlying30, rfl, by decide, info_parts info_s⟩
theorem el_i : El Try.prog 29 3 (.int .i64 0) 8 := ⟨Try.underlying29, rfl, by decide, info_parts info_i⟩

theorem sb_below {B g0 o0 g1 o1 : Nat} {x y : Value} {w w' : World} (h : w.cell? ⟨g0, o0, none⟩ = some x ∧ w.cell? ⟨g1, o1, none⟩ = some y ∧ B ≤ w.heap.size) (hb : Below w.heap.size w w') :
    w'.cell? ⟨g0, o0, none⟩ = some x ∧ w'.cell? ⟨g1, o1, none⟩ = some y ∧ B ≤ w'.heap.size := ⟨cell_below h.1 hb, cell_below h.2.1 hb, Nat.le_trans h.2.2 hb.size⟩
theorem sb_grown {B g0 o0 g1 o1 : Nat} {x y : Value} {w w' : World} {row : Option Nat} (h0 : g0 < B) (h1 : g1 < B) (hr : ∀ k, row = some k → B ≤ k) (h : w.cell? ⟨g0, o0, none⟩ = some x ∧ w.cell? ⟨g1, o1, none⟩ = some y ∧ B ≤ w.heap.size) (hg : w.grownBy w' row) :
    w'.cell? ⟨g0, o0, none⟩ = some x ∧ w'.cell? ⟨g1, o1, none⟩ = some y ∧ B ≤ w'.heap.size :=
  ⟨(hg.cell_far ⟨g0, o0, none⟩ (World.block_lt_of_cell? w _ h.1) (fun e => by have := hr _ e.symm; simp at this; omega)).trans h.1,
   (hg.cell_far ⟨g1, o1, none⟩ (World.block_lt_of_cell? w _ h.2.1) (fun e => by have := hr _ e.symm; simp at this; omega)).trans h.2.1, Nat.le_trans h.2.2 hg.size⟩

/-- The scores that the law makes. -/
def scoreAt (z1 z2 : List Int) (l2 : Nat) (i : Nat) : Int := if z1.getD i 0 % 9 = 0 ∧ i < l2 then z2.getD i 0 else z1.getD i 0 % 4
def namesB (z0 : List Int) : Nat → List Value
  | 0 => []
  | m + 1 => namesB z0 m ++ [.string (nameOf (z0.getD m 0))]
def scoresB (z1 z2 : List Int) (l2 : Nat) : Nat → List Value
  | 0 => []
  | m + 1 => scoresB z1 z2 l2 m ++ [.int .i64 (scoreAt z1 z2 l2 m)]
theorem scoresB_len (z1 z2 : List Int) (l2 : Nat) : ∀ m, (scoresB z1 z2 l2 m).length = m
  | 0 => rfl
  | m + 1 => by simp [scoresB, scoresB_len z1 z2 l2 m]

theorem namesB_eq (z0 : List Int) : ∀ m, namesB z0 m = ((List.range m).map fun j => nameOf (z0.getD j 0)).map Value.string
  | 0 => rfl
  | m + 1 => by rw [namesB, namesB_eq z0 m, List.range_succ]; simp
theorem scoresB_eq (z1 z2 : List Int) (l2 : Nat) : ∀ m, scoresB z1 z2 l2 m = ((List.range m).map (scoreAt z1 z2 l2)).map (Value.int .i64)
  | 0 => rfl
  | m + 1 => by rw [scoresB, scoresB_eq z1 z2 l2 m, List.range_succ]; simp

theorem best_zero (a a' : Option Addr) (c c' : Nat) (w : World) : Calls Try.prog 13 #[.slice a 0 c, .slice a' 0 c'] w fun e w' => e = .returned (.int .i64 (-1)) ∧ w = w' := by
  go_enter Try.func13, Try.ntmps13
  go_wp2
  go_loop [5, 10] (fun b i => i = .int .i64 0 ∧ b = .int .i64 (-1)) (fun _ i => 0)
  case atStart => exact ⟨rfl, rfl⟩
  case round =>
    obtain ⟨rfl, rfl⟩ := hrel
    go_wp2
    go_ret
    exact ⟨rfl, rfl⟩
theorem rbest_zero (a a' : Option Addr) (c c' : Nat) (w : World) : Calls Try.prog 14 #[.slice a 0 c, .slice a' 0 c'] w fun e w' => e = .returned (.int .i64 (-1)) ∧ w = w' := by
  go_enter Try.func14, Try.ntmps14
  go_wp2
  go_loop [5, 6] (fun b i => i = .int .i64 0 ∧ b = .int .i64 (-1)) (fun _ i => 0)
  case atStart => exact ⟨rfl, rfl⟩
  case round =>
    obtain ⟨rfl, rfl⟩ := hrel
    go_wp2
    go_ret
    exact ⟨rfl, rfl⟩
theorem own_form {w : World} {B n : Nat} {e : TypeId} {v : Value} {xs : List Value} (h : w.ownsRow B e 1 v n xs) : ∃ a c, v = .slice a n c ∧ (0 < n → ∃ g, a = some ⟨g, 0, none⟩ ∧ ∀ j, j < n → w.cell? ⟨g, 0 + j, none⟩ = xs[j]?) := by
  rcases h.2 with ⟨rfl, rfl⟩ | ⟨g, cap, cur, rfl, _⟩
  · exact ⟨none, 0, rfl, fun h => absurd h (by omega)⟩
  · exact ⟨_, cap, rfl, fun _ => ⟨g, rfl, fun j hj => by rw [Nat.zero_add]; exact h.cellAt j (by omega)⟩⟩
/-- Best, and the reference's, of two rows of the call's own. -/
theorem best_own {w : World} {B B' n : Nat} {vn vs : Value} {xs : List ByteArray} {ss : List Int} (hn : w.ownsRow B 9 1 vn n (xs.map Value.string)) (hs : w.ownsRow B' 3 1 vs n (ss.map (Value.int .i64))) (hm : n ≤ 4611686018427387904) :
    (Calls Try.prog 13 #[vn, vs] w fun e w' => ∃ q, e = .returned (.int .i64 (bestTo xs ss n)) ∧ w' = w.drewN q) ∧
    (Calls Try.prog 14 #[vn, vs] w fun e w' => ∃ q, e = .returned (.int .i64 (bestTo xs ss n)) ∧ w' = w.drewN q) := by
  have l0 : xs.length = n := by have := hn.1; simpa using this
  have l1 : ss.length = n := by have := hs.1; simpa using this
  obtain ⟨a, c, rfl, ha⟩ := own_form hn
  obtain ⟨a', c', rfl, ha'⟩ := own_form hs
  by_cases h0 : n = 0
  · subst h0
    exact ⟨(best_zero _ _ _ _ _).mono fun e w' ⟨h, h'⟩ => ⟨0, h, h'.symm⟩, (rbest_zero _ _ _ _ _).mono fun e w' ⟨h, h'⟩ => ⟨0, h, h'.symm⟩⟩
  · obtain ⟨g, rfl, hg⟩ := ha (by omega)
    obtain ⟨g', rfl, hg'⟩ := ha' (by omega)
    have q0 : ∀ j, j < n → w.cell? ⟨g, 0 + j, none⟩ = some (.string (xs.getD j ByteArray.empty)) := fun j hj => by
      rw [hg j hj]; simp [List.getD_eq_getElem?_getD, List.getElem?_eq_getElem (show j < xs.length by omega)]
    have q1 : ∀ j, j < n → w.cell? ⟨g', 0 + j, none⟩ = some (.int .i64 (ss.getD j 0)) := fun j hj => by
      rw [hg' j hj]; simp [List.getD_eq_getElem?_getD, List.getElem?_eq_getElem (show j < ss.length by omega)]
    exact ⟨best_pos _ _ _ _ _ _ _ _ _ hm _ q0 q1, rbest_pos _ _ _ _ _ _ _ _ _ hm _ q0 q1⟩

set_option maxRecDepth 100000 in
set_option maxHeartbeats 4000000 in
theorem best_walk (a0 : Option Addr) (l0 c0 : Nat) (z0 : List Int) (a1 : Option Addr) (l1 c1 : Nat) (z1 : List Int) (a2 : Option Addr) (l2 c2 : Nat) (z2 : List Int) (w : World)
    (w0 : IsRow .i64 w a0 l0 c0 z0) (y0 : l0 * 8 ≤ 140737488351232) (w1 : IsRow .i64 w a1 l1 c1 z1) (y1 : l1 * 8 ≤ 140737488351232) (w2 : IsRow .i64 w a2 l2 c2 z2) (y2 : l2 * 8 ≤ 140737488351232) :
    Calls Try.prog 5 #[.slice a0 l0 c0, .slice a1 l1 c1, .slice a2 l2 c2] w fun e w' => e = .returned (.bool true) ∧ Below w.heap.size w w' := by
  have W0 := Lib.hid w0
  have W1 := Lib.hid w1
  have W2 := Lib.hid w2
  clear w0 w1 w2
  go_enter Try.func5, Try.ntmps5
  go_wp2_with ((go_at_call 8; refine (known_any _).mono ?_; rintro r v1 ⟨rfl, hb⟩; have HB1 := Lib.hid hb; clear hb))
  go_loopw [7, 8, 9] (fun vn vs i wr => ∃ m : Nat, m ≤ l0 ∧ m ≤ l1 ∧ m ≤ 12 ∧ i = .int .i64 m ∧ wr.ownsRow v1.heap.size 9 1 vn m (namesB z0 m) ∧ wr.ownsRow v1.heap.size 3 1 vs m (scoresB z1 z2 l2 m) ∧ Below v1.heap.size v1 wr) (fun _ _ i _ => 12 - (intOf i).toNat)
  case atStart => exact ⟨0, by omega, by omega, by omega, rfl, World.ownsRow_nil .., World.ownsRow_nil .., Below.refl _ _⟩
  case round =>
    obtain ⟨m, hm0, hm1, hm12, rfl, hn, hs, hbr⟩ := hrel
    have HN := Lib.hid hn
    have HS := Lib.hid hs
    have HBR := Lib.hid hbr
    clear hn hs hbr
    by_cases hlt : m < l0 ∧ m < l1 ∧ m < 12
    · obtain ⟨h0, h1, h12⟩ := hlt
      have i0 : (m : Int) < (l0 : Int) := by omega
      have i1 : (m : Int) < (l1 : Int) := by omega
      have i2 : (m : Int) < 12 := by omega
      obtain ⟨g0, o0, e0, _, _, hc0⟩ := W0.out.at_ (by omega)
      obtain ⟨g1, o1, e1, _, _, hc1⟩ := W1.out.at_ (by omega)
      have k0 := hc0 m h0
      have k1 := hc1 m h1
      have B0 := World.block_lt_of_cell? w _ k0
      have B1 := World.block_lt_of_cell? w _ k1
      have z1s := HB1.out.size
      have hS0 : wr.drew.cell? ⟨g0, o0 + m, none⟩ = some (.int .i64 (z0.getD m 0)) ∧ wr.drew.cell? ⟨g1, o1 + m, none⟩ = some (.int .i64 (z1.getD m 0)) ∧ v1.heap.size ≤ wr.drew.heap.size :=
        sb_below ⟨cell_below (cell_below k0 HB1.out) HBR.out, cell_below (cell_below k1 HB1.out) HBR.out, HBR.out.size⟩ (Below.refl _ wr).drew
      obtain ⟨x, hx⟩ : ∃ x, x = z0.getD m 0 := ⟨_, rfl⟩
      obtain ⟨y, hy⟩ : ∃ y, y = z1.getD m 0 := ⟨_, rfl⟩
      rw [← hx, ← hy] at hS0
      rw [← hy] at k1
      have K1 := Lib.hid k1
      have HX := Lib.hid hx
      have HY := Lib.hid hy
      have HS0 := Lib.hid hS0
      clear hx hy hS0 k0 k1 hc0 hc1
      subst e0 e1
      have hne1 : (3 : Nat) ≠ 9 := by decide
      have hne2 : (9 : Nat) ≠ 3 := by decide
      have HM : Hid (m ≤ 1099511627776) := (by omega : m ≤ 1099511627776)
      go_wp2
      go_region_held3 (fun w' => w'.cell? ⟨g0, o0 + m, none⟩ = some (.int .i64 x) ∧ w'.cell? ⟨g1, o1 + m, none⟩ = some (.int .i64 y) ∧ v1.heap.size ≤ w'.heap.size) (first | exact HS0.out | (refine sb_below (by assumption) ?_; exact below_alloc' (Below.refl _ _) _) | assumption | exact sb_below (by assumption) OB2.out | exact sb_grown (by omega) (by omega) (fun k hk => (HN.out.lt k hk).1) (by assumption) OG3.out | exact sb_grown (by omega) (by omega) (fun k hk => (HS.out.lt k hk).1) (by assumption) OG4.out) (first | (go_at_call 12; refine (within_any _ _ (by omega) (by omega) _).mono ?_; rintro e w' ⟨rfl, rfl⟩) | (go_at_call 11; refine (name_any _ _).mono ?_; rintro r v2 ⟨rfl, hb⟩; have OB2 := Lib.hid hb; have OZ2 := Lib.hid (Nat.le_trans HS0.out.2.2 hb.size)) | (refine step_app el_s (.tmp 30) (.tmp 36) rfl rfl rfl rfl ((own_below (own_drew HN.out) OB2.out).alloc _) (alloc_at _ _) rfl HM.out (Nat.le_trans OZ2.out (size_alloc_le _ _)) ?_; intro g cap v3 hown3 hg3 hgor hglt; have ON3 := Lib.hid hown3; have OG3 := Lib.hid hg3; have OS3 := Lib.hid (((own_below (own_drew HS.out) OB2.out).alloc _).kept hg3 (own_type_ne HS.out HN.out hne1)); have OZ3 := Lib.hid (Nat.le_trans (Nat.le_trans OZ2.out (size_alloc_le _ _)) hg3.size); clear hown3 hg3 hgor hglt) | (refine step_app el_i (.tmp 38) (.tmp 44) rfl rfl rfl rfl (OS3.out.alloc _) (alloc_at _ _) rfl HM.out (Nat.le_trans OZ3.out (size_alloc_le _ _)) ?_; intro g' cap' v4 hown4 hg4 hgor4 hglt4; have OS4 := Lib.hid hown4; have OG4 := Lib.hid hg4; have ON4 := Lib.hid ((ON3.out.alloc _).kept hg4 (own_type_ne ON3.out OS3.out hne2)); have OZ4 := Lib.hid (Nat.le_trans (Nat.le_trans OZ3.out (size_alloc_le _ _)) hg4.size); clear hown4 hg4 hgor4 hglt4))
      have b0 : Below v1.heap.size v1 v3 := (((HBR.out.drew).trans (OB2.out.mono HS0.out.2.2)).alloc OZ2.out _).grown OG3.out (Nat.le_trans OZ2.out (size_alloc_le _ _)) (fun k hk => (HN.out.lt k hk).1)
      have b1 := (b0.alloc OZ3.out _).grown OG4.out (Nat.le_trans OZ3.out (size_alloc_le _ _)) (fun k hk => (HS.out.lt k hk).1)
      have HB4 := Lib.hid b1
      have c1 : v4.cell? ⟨g1, o1 + m, none⟩ = some (.int .i64 y) := (by assumption : _ ∧ v4.cell? ⟨g1, o1 + m, none⟩ = some (.int .i64 y) ∧ _).2.1
      clear b0 b1
      have HC1 := Lib.hid c1
      clear c1
      have ON5 : Hid (v4.ownsRow v1.heap.size 9 1 (.slice (some ⟨g, 0, none⟩) (m + 1) cap) (m + 1) (namesB z0 (m + 1))) := by
        have h := ON4.out
        rw [HX.out] at h
        exact h
      by_cases hc : y % 9 = 0 ∧ m < l2
      · obtain ⟨h9, hl2⟩ := hc
        have d9 : (y % 9 == 0) = true := beq_iff_eq.mpr h9
        have i3 : (m : Int) < (l2 : Int) := by omega
        have i4 : (m : Int) < (m : Int) + 1 := by omega
        obtain ⟨g2, o2, e2, _, _, hc2⟩ := W2.out.at_ (by omega)
        have k2 := cell_below (hc2 m hl2) HB1.out
        have k3 := (HB4.out.cell (p := ⟨g2, o2 + m, none⟩) (World.block_lt_of_cell? _ _ k2)).trans k2
        obtain ⟨u, hu⟩ : ∃ u, u = z2.getD m 0 := ⟨_, rfl⟩
        rw [← hu] at k3
        have c1 := HC1.out
        have f1 := OS4.out.frozenAt m
        have c5 := OS4.out.cellAt m (by omega)
        rw [List.getElem?_append_right (by rw [scoresB_len]; exact Nat.le_refl _), scoresB_len, Nat.sub_self, List.getElem?_cons_zero] at c5
        have OS5 : Hid ((v4.setCell ⟨g', m, none⟩ (.int .i64 u)).ownsRow v1.heap.size 3 1 (.slice (some ⟨g', 0, none⟩) (m + 1) cap') (m + 1) (scoresB z1 z2 l2 (m + 1))) := by
          have h := own_set OS4.out m (by omega) (.int .i64 u)
          rw [List.set_append_right _ _ (by rw [scoresB_len]; exact Nat.le_refl _), scoresB_len, Nat.sub_self, List.set_cons_zero] at h
          have e : u = scoreAt z1 z2 l2 m := by rw [hu]; unfold scoreAt; rw [if_pos ⟨by rw [← HY.out]; exact h9, hl2⟩]
          rw [e] at h ⊢
          exact h
        have ON6 : Hid ((v4.setCell ⟨g', m, none⟩ (.int .i64 u)).ownsRow v1.heap.size 9 1 (.slice (some ⟨g, 0, none⟩) (m + 1) cap) (m + 1) (namesB z0 (m + 1))) :=
          own_setOther ON5.out _ (own_type_ne (w := v4) ON5.out OS4.out hne2)
        have HB6 : Hid (Below v1.heap.size v1 (v4.setCell ⟨g', m, none⟩ (.int .i64 u))) := HB4.out.setCell (OS4.out.lt g' rfl).1 _
        have HU := Lib.hid hu
        clear h9 hu k2 hc2
        subst e2
        go_wp2_with ((go_at_call 12; refine (within_any _ _ (by omega) (by omega) _).mono ?_; rintro e w' ⟨rfl, rfl⟩))
        go_roundw
        case rel => exact ⟨m + 1, by omega, by omega, by omega, by go_num, ON6.out, OS5.out, HB6.out⟩
        case measure => simp [intOf]; omega
      · have c1 := HC1.out
        have OS5 : Hid (v4.ownsRow v1.heap.size 3 1 (.slice (some ⟨g', 0, none⟩) (m + 1) cap') (m + 1) (scoresB z1 z2 l2 (m + 1))) := by
          have e : y % 4 = scoreAt z1 z2 l2 m := by unfold scoreAt; rw [if_neg (by rw [← HY.out]; exact hc), ← HY.out]
          have h := OS4.out
          rw [e] at h
          exact h
        by_cases h9 : y % 9 = 0
        · have d9 : (y % 9 == 0) = true := beq_iff_eq.mpr h9
          have hl2 : ¬ (m : Int) < (l2 : Int) := fun h => hc ⟨h9, by omega⟩
          have dl : decide ((m : Int) < (l2 : Int)) = false := decide_eq_false hl2
          clear h9 hc
          go_wp2_with ((go_at_call 12; refine (within_any _ _ (by omega) (by omega) _).mono ?_; rintro e w' ⟨rfl, rfl⟩))
          go_roundw
          case rel => exact ⟨m + 1, by omega, by omega, by omega, by go_num, ON5.out, OS5.out, HB4.out⟩
          case measure => simp [intOf]; omega
        · have d9 : (y % 9 == 0) = false := beq_eq_false_iff_ne.mpr h9
          clear h9 hc
          go_wp2_with ((go_at_call 12; refine (within_any _ _ (by omega) (by omega) _).mono ?_; rintro e w' ⟨rfl, rfl⟩))
          go_roundw
          case rel => exact ⟨m + 1, by omega, by omega, by omega, by go_num, ON5.out, OS5.out, HB4.out⟩
          case measure => simp [intOf]; omega
    · have dec : (decide (m < l0) = false) ∨ (decide (m < l0) = true ∧ decide (m < l1) = false) ∨ (decide (m < l0) = true ∧ decide (m < l1) = true ∧ decide ((m : Int) < 12) = false) := by
        by_cases h0 : m < l0
        · by_cases h1 : m < l1
          · exact .inr (.inr ⟨decide_eq_true (by omega), decide_eq_true (by omega), decide_eq_false (by omega)⟩)
          · exact .inr (.inl ⟨decide_eq_true (by omega), decide_eq_false (by omega)⟩)
        · exact .inl (decide_eq_false (by omega))
      obtain ⟨kb, hkb⟩ : ∃ b, b = bestTo ((List.range m).map fun j => nameOf (z0.getD j 0)) ((List.range m).map (scoreAt z1 z2 l2)) m := ⟨_, rfl⟩
      have HB : Hid _ := Lib.hid (best_own (xs := (List.range m).map fun j => nameOf (z0.getD j 0)) (ss := (List.range m).map (scoreAt z1 z2 l2)) (by rw [← namesB_eq]; exact HN.out) (by rw [← scoresB_eq]; exact HS.out) (by omega))
      rw [← hkb] at HB
      have HB2 := fun q => Lib.hid (best_own (w := wr.drewN q) (xs := (List.range m).map fun j => nameOf (z0.getD j 0)) (ss := (List.range m).map (scoreAt z1 z2 l2)) (by rw [← namesB_eq]; exact own_drewN HN.out q) (by rw [← scoresB_eq]; exact own_drewN HS.out q) (by omega))
      rw [← hkb] at HB2
      have HB2 := Lib.hid HB2
      have HKB := Lib.hid hkb
      clear hkb
      clear hlt
      obtain ⟨fa, fc, fv, HFa⟩ := own_form HN.out
      obtain ⟨ga, gc, gv, HGa⟩ := own_form HS.out
      replace HFa := Lib.hid HFa
      replace HGa := Lib.hid HGa
      subst fv gv
      have HSP : Hid (∀ i, i < m → NoBetter ((List.range m).map fun j => nameOf (z0.getD j 0)) ((List.range m).map (scoreAt z1 z2 l2)) kb.toNat i) := fun i hi => by
        rw [HKB.out]
        exact bestTo_spec _ _ m (by omega) i hi
      have hkb := bestTo_bd ((List.range m).map fun j => nameOf (z0.getD j 0)) ((List.range m).map (scoreAt z1 z2 l2)) m
      rw [← HKB.out] at hkb
      by_cases hm0' : m = 0
      · subst hm0'
        obtain rfl : kb = -1 := by have := hkb; omega
        have dec' : (decide (0 < l0) = false) ∨ (decide (0 < l0) = true ∧ decide (0 < l1) = false) := by
          rcases dec with d0 | ⟨d0, d1⟩ | ⟨_, _, h⟩
          · exact .inl d0
          · exact .inr ⟨d0, d1⟩
          · have := of_decide_eq_false h; omega
        clear hkb
        rcases dec' with d0 | ⟨d0, d1⟩
        all_goals
          go_wp2_with (first | (go_at_call 13; refine HB.out.1.mono ?_; rintro e w5 ⟨q, rfl, rfl⟩) | (go_at_call 14; refine (HB2.out _).out.2.mono ?_; rintro e w6 ⟨q2, rfl, rfl⟩))
          go_ret
          exact ⟨rfl, below_drewN' (below_call HB1.out (HBR.out)) _⟩
      obtain ⟨b, rfl⟩ : ∃ b : Nat, kb = b := ⟨kb.toNat, by have := hkb.2.2 (by omega); omega⟩
      have hbm : b < m := by omega
      have hmz : ((m : Int) == 0) = false := beq_eq_false_iff_ne.mpr (by omega)
      obtain ⟨gf, rfl, HF0⟩ := HFa.out (by omega)
      obtain ⟨gg, rfl, HG0⟩ := HGa.out (by omega)
      have QF : Hid (∀ j, j < m → wr.cell? ⟨gf, j, none⟩ = some (.string (nameOf (z0.getD j 0)))) := fun j hj => by
        have := HF0 j hj
        rw [Nat.zero_add, namesB_eq] at this
        simpa [List.getElem?_range hj] using this
      have QG : Hid (∀ j, j < m → wr.cell? ⟨gg, j, none⟩ = some (.int .i64 (scoreAt z1 z2 l2 j))) := fun j hj => by
        have := HG0 j hj
        rw [Nat.zero_add, scoresB_eq] at this
        simpa [List.getElem?_range hj] using this
      have HSQ : Hid (∀ i, i < m → scoreAt z1 z2 l2 i < scoreAt z1 z2 l2 b ∨ (scoreAt z1 z2 l2 i = scoreAt z1 z2 l2 b ∧ (Op.bytesLess (nameOf (z0.getD b 0)).toList (nameOf (z0.getD i 0)).toList = true ∨ ((nameOf (z0.getD b 0)).toList = (nameOf (z0.getD i 0)).toList ∧ b ≤ i)))) := fun i hi => by
        have h := HSP.out i hi
        unfold NoBetter at h
        rw [Int.toNat_natCast] at h
        simpa [List.getD_eq_getElem?_getD, List.getElem?_range hi, List.getElem?_range hbm] using h
      have hkb' : decide (b < m) = true := decide_eq_true hbm
      clear HF0 HG0 hkb HSP HKB
      rcases dec with d0 | ⟨d0, d1⟩ | ⟨d0, d1, d2⟩
      all_goals
        go_wp2_with (first | (go_at_call 13; refine HB.out.1.mono ?_; rintro e w5 ⟨q, rfl, rfl⟩) | (go_at_call 14; refine (HB2.out _).out.2.mono ?_; rintro e w6 ⟨q2, rfl, rfl⟩))
        clear d0
        go_loopw [11] (fun i w7 => ∃ k q : Nat, k ≤ m ∧ i = .int .i64 k ∧ w7 = wr.drewN q) (fun i _ => m - (intOf i).toNat)
        case atStart => exact ⟨0, _, by omega, rfl, rfl⟩
        case round =>
          obtain ⟨k, q3, hk, rfl, rfl⟩ := hrel
          by_cases hlt : k < m
          · have a1 := QG.out k hlt
            have a0 := QF.out k hlt
            have b1 := QG.out b hbm
            have b0 := QF.out b hbm
            have ik : (k : Int) < (m : Int) := by omega
            have ib : (b : Int) < (m : Int) := by omega
            have hq := HSQ.out k hlt
            generalize scoreAt z1 z2 l2 k = sk at *
            generalize scoreAt z1 z2 l2 b = sb at *
            generalize nameOf (z0.getD k 0) = xk at *
            generalize nameOf (z0.getD b 0) = xb at *
            rcases hq with h | ⟨rfl, h | ⟨h, h'⟩⟩
            · have e1 : decide (sb < sk) = false := decide_eq_false (by omega)
              have e2 : (sk == sb) = false := beq_eq_false_iff_ne.mpr (by omega)
              clear h
              go_wp2
              go_quiet (fail)
              go_wp2
              go_roundw
              case rel => exact ⟨k + 1, _, by omega, by go_num, rfl⟩
              case measure => simp [intOf]; omega
            · have e1 : decide (sk < sk) = false := decide_eq_false (by omega)
              have e3 : Op.bytesLess xk.toList xb.toList = false := by
                cases hh : Op.bytesLess xk.toList xb.toList with
                | false => rfl
                | true => have := less_trans _ _ _ h hh; rw [less_irrefl] at this; cases this
              have e4 : (xk.toList == xb.toList) = false := beq_eq_false_iff_ne.mpr (fun e => by rw [e, less_irrefl] at h; cases h)
              clear h
              go_wp2
              go_quiet (fail)
              go_wp2
              go_roundw
              case rel => exact ⟨k + 1, _, by omega, by go_num, rfl⟩
              case measure => simp [intOf]; omega
            · have e3 : Op.bytesLess xk.toList xb.toList = false := by rw [h]; exact less_irrefl _
              have e4 : (xk.toList == xb.toList) = true := beq_iff_eq.mpr h.symm
              have e5 : decide (k < b) = false := decide_eq_false (by omega)
              clear h
              go_wp2
              go_quiet (fail)
              go_wp2
              go_roundw
              case rel => exact ⟨k + 1, _, by omega, by go_num, rfl⟩
              case measure => simp [intOf]; omega
          · obtain rfl : m = k := by omega
            go_wp2
            go_ret
            exact ⟨rfl, below_drewN' (below_call HB1.out HBR.out) _⟩
end Go.Proofs.Ytpndngcopfpdgaa
