/- Contracts of the functions of chapter 6 that the laws reach: part, Left, Score, Best, of the program and of the reference; no conditions but the sizes that each theorem names. -/
import Derived.Test.YtpndngcopfpdgaaDoorProg
import Derived.WalkKit
import Derived.KernelRfl
import Derived.Below
import Derived.Deep.QuietTactic
import Derived.BigQuiet
import Derived.WalkLawsBesides
import Derived.Deep.LoopGhost
import Derived.Lib.Hide
import Derived.WalkSmall
import Derived.StillTailTactics
import Derived.Deep.RegionHeld3
import Derived.Test.YtpndngcopfpdgaaDoorPar
set_option linter.unusedVariables false
set_option linter.unusedSimpArgs false
namespace Go.Proofs.YtpndngcopfpdgaaDoor
open Go.RowKit

theorem ret_int {k : IntKind} {a b : Int} (h : a = b) : Ending.returned (.int k a) = .returned (.int k b) := by rw [h]
theorem ret_bool {a b : Bool} (h : a = b) : Ending.returned (.bool a) = .returned (.bool b) := by rw [h]

/-- Is number k better than number b? -/
def better (xs : List ByteArray) (ss : List Int) (b : Int) (k : Nat) : Bool :=
  decide (b < 0) || decide (ss.getD b.toNat 0 < ss.getD k 0) || (ss.getD k 0 == ss.getD b.toNat 0 && Op.bytesLess (xs.getD k ByteArray.empty).toList (xs.getD b.toNat ByteArray.empty).toList)
def bestTo (xs : List ByteArray) (ss : List Int) : Nat → Int
  | 0 => -1
  | k + 1 => if better xs ss (bestTo xs ss k) k = true then (k : Int) else bestTo xs ss k
theorem bestTo_bd (xs : List ByteArray) (ss : List Int) : ∀ k, -1 ≤ bestTo xs ss k ∧ bestTo xs ss k < (k : Int) ∧ (0 < k → 0 ≤ bestTo xs ss k)
  | 0 => by simp [bestTo]
  | k + 1 => by
    have h := bestTo_bd xs ss k
    unfold bestTo
    split
    · omega
    · rename_i hb
      by_cases hk : 0 < k
      · have := h.2.2 hk; omega
      · obtain rfl : k = 0 := by omega
        exact absurd (by simp [better, bestTo]) hb

set_option maxHeartbeats 1000000 in
theorem best_pos (n g0 o0 c0 g1 o1 c1 : Nat) (xs : List ByteArray) (ss : List Int) (hm : n ≤ 4611686018427387904) (w : World)
    (h0 : ∀ j, j < n → w.cell? ⟨g0, o0 + j, none⟩ = some (.string (xs.getD j ByteArray.empty))) (h1 : ∀ j, j < n → w.cell? ⟨g1, o1 + j, none⟩ = some (.int .i64 (ss.getD j 0))) :
    Calls Tryd.prog 14 #[.slice (some ⟨g0, o0, none⟩) n c0, .slice (some ⟨g1, o1, none⟩) n c1] w fun e w' => ∃ q, e = .returned (.int .i64 (bestTo xs ss n)) ∧ w' = w.drewN q := by
  have H0 := Lib.hid h0
  have H1 := Lib.hid h1
  clear h0 h1
  go_enter Tryd.func14, Tryd.ntmps14
  go_wp2
  go_loopw [5, 10] (fun b i wr => ∃ k q : Nat, k ≤ n ∧ i = .int .i64 k ∧ b = .int .i64 (bestTo xs ss k) ∧ wr = w.drewN q) (fun _ i _ => n - (intOf i).toNat)
  case atStart => exact ⟨0, 0, Nat.zero_le _, rfl, rfl, rfl⟩
  case round =>
    obtain ⟨k, q, hk, rfl, hb, rfl⟩ := hrel
    have hbd := bestTo_bd xs ss k
    obtain ⟨b, hbe⟩ : ∃ b, b = bestTo xs ss k := ⟨_, rfl⟩
    have HS : bestTo xs ss (k + 1) = if better xs ss (bestTo xs ss k) k = true then (k : Int) else bestTo xs ss k := rfl
    rw [← hbe] at hb hbd HS
    have HB := Lib.hid hbe
    have HS' := Lib.hid HS
    clear HS hbe
    subst hb
    by_cases hlt : k < n
    · have a1 := H1.out k hlt
      have a0 := H0.out k hlt
      by_cases hb0 : b < 0
      · have d0 : decide (b < 0) = true := decide_eq_true hb0
        go_wp2
        go_quiet (fail)
        go_wp2
        go_roundw
        case rel => exact ⟨k + 1, _, by omega, by go_num, by rw [HS'.out, if_pos (by simp [better, d0])], rfl⟩
        case measure => simp [intOf]; omega
      · obtain ⟨m, rfl⟩ : ∃ m : Nat, b = (m : Int) := ⟨b.toNat, by omega⟩
        have hmk : m < k := by omega
        have b1 := H1.out m (by omega)
        have b0 := H0.out m (by omega)
        have im : (m : Int) < (n : Int) := by omega
        have ik : (k : Int) < (n : Int) := by omega
        have d0 : decide ((m : Int) < 0) = false := decide_eq_false hb0
        have HS2 : Hid (bestTo xs ss (k + 1) = if (decide (ss.getD m 0 < ss.getD k 0) || (ss.getD k 0 == ss.getD m 0 && Op.bytesLess (xs.getD k ByteArray.empty).toList (xs.getD m ByteArray.empty).toList)) = true then (k : Int) else m) := by
          rw [Hid, HS'.out, better, Int.toNat_natCast, d0, Bool.false_or]
        clear HS'
        generalize ss.getD m 0 = sm at *
        generalize ss.getD k 0 = sk at *
        generalize xs.getD m ByteArray.empty = xm at *
        generalize xs.getD k ByteArray.empty = xk at *
        by_cases h2 : sm < sk
        · have d2 : decide (sm < sk) = true := decide_eq_true h2
          go_wp2
          go_quiet (fail)
          go_wp2
          go_roundw
          case rel => exact ⟨k + 1, _, by omega, by go_num, by rw [HS2.out, d2]; rfl, rfl⟩
          case measure => simp [intOf]; omega
        · have d2 : decide (sm < sk) = false := decide_eq_false h2
          by_cases h3 : sk = sm
          · have d3 : (sk == sm) = true := beq_iff_eq.mpr h3
            clear h2 h3
            cases h4 : Op.bytesLess xk.toList xm.toList
            · go_wp2
              go_quiet (fail)
              go_wp2
              go_roundw
              case rel => exact ⟨k + 1, _, by omega, by go_num, by rw [HS2.out, d2, d3, h4]; rfl, rfl⟩
              case measure => simp [intOf]; omega
            · go_wp2
              go_quiet (fail)
              go_wp2
              go_roundw
              case rel => exact ⟨k + 1, _, by omega, by go_num, by rw [HS2.out, d2, d3, h4]; rfl, rfl⟩
              case measure => simp [intOf]; omega
          · have d3 : (sk == sm) = false := beq_eq_false_iff_ne.mpr h3
            go_wp2
            go_quiet (fail)
            go_wp2
            go_roundw
            case rel => exact ⟨k + 1, _, by omega, by go_num, by rw [HS2.out, d2, d3]; rfl, rfl⟩
            case measure => simp [intOf]; omega
    · obtain rfl : n = k := by omega
      go_wp2
      go_ret
      exact ⟨q, ret_int HB.out, rfl⟩

def Tops (w : World) : Prop := w.cell? ⟨0, 0, none⟩ = some (.int .i64 0) ∧ w.cell? ⟨0, 1, none⟩ = some (.int .i64 200) ∧ w.cell? ⟨0, 2, none⟩ = some (.int .i64 1000)
theorem Tops.below {w w' : World} (h : Tops w) (hb : Below w.heap.size w w') : Tops w' := by
  obtain ⟨h0, h1, h2⟩ := h
  exact ⟨(hb.cell (World.block_lt_of_cell? w _ h0)).trans h0, (hb.cell (World.block_lt_of_cell? w _ h1)).trans h1, (hb.cell (World.block_lt_of_cell? w _ h2)).trans h2⟩
theorem below_alloc' {w W : World} (h : Below w.heap.size w W) (o : Obj) : Below w.heap.size w (W.alloc o) := h.alloc h.size o
theorem below_drewN' {B : Nat} {w W : World} (h : Below B w W) (n : Nat) : Below B w (W.drewN n) := ⟨h.os, h.tape, h.output, h.size, h.block⟩
theorem below_call {w w1 w2 : World} (h : Below w.heap.size w w1) (k : Below w1.heap.size w1 w2) : Below w.heap.size w w2 := h.trans (k.mono h.size)

def partF (m u n : Int) : Int := if m = 0 then 100 else wrap64 (Int.tdiv (wrap64 (100 * (wrap64 ((wrap64 (m - u)) - n)))) m)

theorem part_any (a b c : Int) (w : World) : Calls Tryd.prog 15 #[.int .i64 a, .int .i64 b, .int .i64 c] w fun e w' => e = .returned (.int .i64 (partF a b c)) ∧ w = w' := by
  by_cases h : a = 0
  · have h0 : (a == 0) = true := beq_iff_eq.mpr h
    go_enter Tryd.func15, Tryd.ntmps15
    go_wp2
    go_ret
    exact ⟨by simp [partF, h], rfl⟩
  · have h0 : (a == 0) = false := beq_eq_false_iff_ne.mpr h
    go_enter Tryd.func15, Tryd.ntmps15
    go_wp2
    go_ret
    exact ⟨by simp [partF, h], rfl⟩

def leftF (a b c d e f : Int) : Int := wrap64 (partF a c e + partF b d f)
theorem left_any (a b c d e f : Int) (w : World) : Calls Tryd.prog 10 #[.agg #[.int .i64 a, .int .i64 b], .agg #[.int .i64 c, .int .i64 d], .agg #[.int .i64 e, .int .i64 f]] w fun r w' => r = .returned (.int .i64 (leftF a b c d e f)) ∧ Below w.heap.size w w' := by
  go_enter Tryd.func10, Tryd.ntmps10
  go_wp2
  go_quiet ((go_at_call 15; exact Calls.quiet_of_same ((part_any _ _ _ _).mono fun _ _ ⟨h, h'⟩ => ⟨h, h'.symm⟩)))
  go_wp2
  go_ret
  exact ⟨rfl, below_drewN' (below_alloc' (below_alloc' (below_alloc' (Below.refl _ _) _) _) _) _⟩

theorem wrap_wrap (x : Int) : wrap64 (wrap64 x) = wrap64 x := by unfold wrap64; omega
theorem leftF_wrap (a b c d e f : Int) : wrap64 (leftF a b c d e f) = leftF a b c d e f := wrap_wrap _
def scoreF (mode l pods : Int) : Int := if mode = 0 then l else if mode = 1 then wrap64 (200 - l) else if mode = 2 then wrap64 (1000 - pods) else 0

set_option maxHeartbeats 1000000 in
theorem score_any (mode a b c d e f pods : Int) (w : World) (ht : Tops w) : Calls Tryd.prog 12 #[.int .i64 mode, .agg #[.int .i64 a, .int .i64 b], .agg #[.int .i64 c, .int .i64 d], .agg #[.int .i64 e, .int .i64 f], .int .i64 pods] w
    fun r w' => r = .returned (.int .i64 (scoreF mode (leftF a b c d e f) pods)) ∧ Below w.heap.size w w' := by
  have HT := Lib.hid ht
  clear ht
  have HB0 : Hid (Below w.heap.size w (((w.alloc (.cells #[.int .i64 a, .int .i64 b] 25)).alloc (.cells #[.int .i64 c, .int .i64 d] 25)).alloc (.cells #[.int .i64 e, .int .i64 f] 25))) :=
    below_alloc' (below_alloc' (below_alloc' (Below.refl _ _) _) _) _
  by_cases h0 : mode = 0
  · subst h0
    go_enter Tryd.func12, Tryd.ntmps12
    go_wp2_with (go_at_call 10; refine (left_any _ _ _ _ _ _ _).mono ?_; rintro r w1 ⟨rfl, hb⟩; obtain ⟨t0, t1, t2⟩ := HT.out.below (below_call HB0.out hb); have HB := Lib.hid hb; clear hb)
    go_ret
    exact ⟨ret_int (leftF_wrap a b c d e f), below_call HB0.out HB.out⟩
  · by_cases h1 : mode = 1
    · subst h1
      go_enter Tryd.func12, Tryd.ntmps12
      go_wp2_with (go_at_call 10; refine (left_any _ _ _ _ _ _ _).mono ?_; rintro r w1 ⟨rfl, hb⟩; obtain ⟨t0, t1, t2⟩ := HT.out.below (below_call HB0.out hb); have HB := Lib.hid hb; clear hb)
      go_ret
      exact ⟨rfl, below_call HB0.out HB.out⟩
    · by_cases h2 : mode = 2
      · subst h2
        go_enter Tryd.func12, Tryd.ntmps12
        go_wp2_with (go_at_call 10; refine (left_any _ _ _ _ _ _ _).mono ?_; rintro r w1 ⟨rfl, hb⟩; obtain ⟨t0, t1, t2⟩ := HT.out.below (below_call HB0.out hb); have HB := Lib.hid hb; clear hb)
        go_ret
        exact ⟨rfl, below_call HB0.out HB.out⟩
      · have b0 : (mode == 0) = false := beq_eq_false_iff_ne.mpr h0
        have b1 : (mode == 1) = false := beq_eq_false_iff_ne.mpr h1
        have b2 : (mode == 2) = false := beq_eq_false_iff_ne.mpr h2
        have HF : Hid (scoreF mode (leftF a b c d e f) pods = 0) := by unfold Hid scoreF; rw [if_neg h0, if_neg h1, if_neg h2]
        clear h0 h1 h2
        go_enter Tryd.func12, Tryd.ntmps12
        go_wp2_with (go_at_call 10; refine (left_any _ _ _ _ _ _ _).mono ?_; rintro r w1 ⟨rfl, hb⟩; have HB := Lib.hid hb; clear hb)
        go_ret
        exact ⟨ret_int HF.out.symm, below_call HB0.out HB.out⟩



theorem rpart_any (a b c : Int) (w : World) : Calls Tryd.prog 16 #[.int .i64 a, .int .i64 b, .int .i64 c] w fun e w' => e = .returned (.int .i64 (partF a b c)) ∧ w = w' := by
  by_cases h : a = 0
  · have h0 : (a == 0) = true := beq_iff_eq.mpr h
    go_enter Tryd.func16, Tryd.ntmps16
    go_wp2
    go_ret
    exact ⟨by simp [partF, h], rfl⟩
  · have h0 : (a == 0) = false := beq_eq_false_iff_ne.mpr h
    go_enter Tryd.func16, Tryd.ntmps16
    go_wp2
    go_ret
    exact ⟨by simp [partF, h], rfl⟩

theorem rleft_any (a b c d e f : Int) (w : World) : Calls Tryd.prog 11 #[.agg #[.int .i64 a, .int .i64 b], .agg #[.int .i64 c, .int .i64 d], .agg #[.int .i64 e, .int .i64 f]] w fun r w' => r = .returned (.int .i64 (leftF a b c d e f)) ∧ Below w.heap.size w w' := by
  go_enter Tryd.func11, Tryd.ntmps11
  go_wp2
  go_quiet ((go_at_call 16; exact Calls.quiet_of_same ((rpart_any _ _ _ _).mono fun _ _ ⟨h, h'⟩ => ⟨h, h'.symm⟩)))
  go_wp2
  go_ret
  exact ⟨rfl, below_drewN' (below_alloc' (below_alloc' (below_alloc' (Below.refl _ _) _) _) _) _⟩

set_option maxHeartbeats 1000000 in
theorem rscore_any (mode a b c d e f pods : Int) (w : World) : Calls Tryd.prog 13 #[.int .i64 mode, .agg #[.int .i64 a, .int .i64 b], .agg #[.int .i64 c, .int .i64 d], .agg #[.int .i64 e, .int .i64 f], .int .i64 pods] w
    fun r w' => r = .returned (.int .i64 (scoreF mode (leftF a b c d e f) pods)) ∧ Below w.heap.size w w' := by
  have HB0 : Hid (Below w.heap.size w (((w.alloc (.cells #[.int .i64 a, .int .i64 b] 25)).alloc (.cells #[.int .i64 c, .int .i64 d] 25)).alloc (.cells #[.int .i64 e, .int .i64 f] 25))) :=
    below_alloc' (below_alloc' (below_alloc' (Below.refl _ _) _) _) _
  by_cases h0 : mode = 0
  · subst h0
    go_enter Tryd.func13, Tryd.ntmps13
    go_wp2_with (go_at_call 11; refine (rleft_any _ _ _ _ _ _ _).mono ?_; rintro r w1 ⟨rfl, hb⟩; have HB := Lib.hid hb; clear hb)
    go_ret
    exact ⟨rfl, below_call HB0.out HB.out⟩
  · by_cases h1 : mode = 1
    · subst h1
      go_enter Tryd.func13, Tryd.ntmps13
      go_wp2_with (go_at_call 11; refine (rleft_any _ _ _ _ _ _ _).mono ?_; rintro r w1 ⟨rfl, hb⟩; have HB := Lib.hid hb; clear hb)
      go_ret
      exact ⟨rfl, below_call HB0.out HB.out⟩
    · by_cases h2 : mode = 2
      · subst h2
        go_enter Tryd.func13, Tryd.ntmps13
        go_wp2
        go_ret
        exact ⟨rfl, HB0.out⟩
      · have b0 : (mode == 0) = false := beq_eq_false_iff_ne.mpr h0
        have b1 : (mode == 1) = false := beq_eq_false_iff_ne.mpr h1
        have b2 : (mode == 2) = false := beq_eq_false_iff_ne.mpr h2
        have HF : Hid (scoreF mode (leftF a b c d e f) pods = 0) := by unfold Hid scoreF; rw [if_neg h0, if_neg h1, if_neg h2]
        clear h0 h1 h2
        go_enter Tryd.func13, Tryd.ntmps13
        go_wp2
        go_ret
        exact ⟨ret_int HF.out.symm, HB0.out⟩
end Go.Proofs.YtpndngcopfpdgaaDoor
