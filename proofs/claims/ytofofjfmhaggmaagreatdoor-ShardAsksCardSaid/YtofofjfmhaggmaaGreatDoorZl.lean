/- Peers by a number. -/
import Derived.Test.YtofofjfmhaggmaaGreatDoorZg
set_option linter.unusedVariables false
set_option linter.unusedSimpArgs false
namespace Go.Proofs.YtofofjfmhaggmaaGreatDoor
open Go.RowKit

theorem within4_any (a m : Int) (hm : 0 < m) (hb : m ≤ 4611686018427387904) (w : World) : Calls Tryz.prog 44 #[.int .i64 a, .int .i64 m] w fun e w' => e = .returned (.int .i64 (a % m)) ∧ w = w' := by
  have t1 := Int.tmod_lt_of_pos a hm
  have t2 := Int.lt_tmod_of_pos a hm
  have hz : (m == 0) = false := beq_eq_false_iff_ne.mpr (by omega)
  have em := Lib.hid (emod_is a hm)
  by_cases h : a.tmod m < 0
  · go_enter Tryz.func44, Tryz.ntmps44
    go_wp2
    go_ret
    exact ⟨ret_int (by rw [em.out, if_pos h]), rfl⟩
  · go_enter Tryz.func44, Tryz.ntmps44
    go_wp2
    go_ret
    exact ⟨ret_int (by rw [em.out, if_neg (by omega)]), rfl⟩
theorem news_one {w : World} {g : Nat} {u : Value} {T : TypeId} (h : w.heap[g]? = some (.cells #[u] T (0, 0))) : ∀ j v, [u][j]? = some v → w.cell? ((⟨g, 0, none⟩ : Addr).add j) = some v := World.news_of_block h


/-- Peers by a number: the first k looked at. -/
def peersM (n : Int) : Nat → List Int
  | 0 => []
  | k + 1 => if n / 2 ^ (k + 1) % 2 = 1 ∨ k = 3 ∧ (peersM n k).length = 0 then peersM n k ++ [((k + 1 : Nat) : Int)] else peersM n k
theorem peersM_yes {n : Int} {k : Nat} (h : n / 2 ^ (k + 1) % 2 = 1 ∨ k = 3 ∧ (peersM n k).length = 0) : peersM n (k + 1) = peersM n k ++ [((k + 1 : Nat) : Int)] := by
  show (if _ then _ else _) = _
  rw [if_pos h]
theorem peersM_no {n : Int} {k : Nat} (h : ¬ (n / 2 ^ (k + 1) % 2 = 1 ∨ k = 3 ∧ (peersM n k).length = 0)) : peersM n (k + 1) = peersM n k := by
  show (if _ then _ else _) = _
  rw [if_neg h]
theorem peersM_len (n : Int) : ∀ k, (peersM n k).length ≤ k
  | 0 => Nat.le_refl _
  | k + 1 => by
    have := peersM_len n k
    unfold peersM
    split
    · simp; omega
    · omega
theorem within4_one (a : Int) (h : a % 2 = 1) (w : World) : Calls Tryz.prog 44 #[.int .i64 a, .int .i64 2] w fun e w' => e = .returned (.int .i64 1) ∧ w = w' := by
  refine (within4_any a 2 (by omega) (by omega) w).mono ?_
  rintro e w' ⟨rfl, rfl⟩
  exact ⟨by rw [h], rfl⟩
theorem within4_nil (a : Int) (h : ¬ a % 2 = 1) (w : World) : Calls Tryz.prog 44 #[.int .i64 a, .int .i64 2] w fun e w' => e = .returned (.int .i64 0) ∧ w = w' := by
  refine (within4_any a 2 (by omega) (by omega) w).mono ?_
  rintro e w' ⟨rfl, rfl⟩
  exact ⟨by rw [show a % 2 = 0 by omega], rfl⟩

set_option maxHeartbeats 2000000 in
set_option maxRecDepth 100000 in
theorem peers_any (n : Int) (w : World) : Calls Tryz.prog 21 #[.int .i64 n] w fun e w' => ∃ v, e = .returned v ∧ Ints w.heap.size w' v (peersM n 4) ∧ Below w.heap.size w w' := by
  go_enter Tryz.func21, Tryz.ntmps21
  go_wp2
  go_loopw [3, 4] (fun v i wr => ∃ k : Nat, i = .int .i64 (k + 1 : Nat) ∧ k ≤ 4 ∧ Ints w.heap.size wr v (peersM n k) ∧ Below w.heap.size w wr) (fun _ i _ => 5 - (intOf i).toNat)
  case atStart => exact ⟨0, rfl, by omega, World.ownsRow_nil _ _ _ _, Below.refl _ _⟩
  case round =>
    obtain ⟨k, rfl, hk, hown, hbw⟩ := hrel
    obtain ⟨a, c, rfl⟩ := own_slicen hown
    have HO := Lib.hid hown
    have HB := Lib.hid hbw
    have HL := Lib.hid (peersM_len n k)
    clear hown hbw
    by_cases hlt : k < 4
    · have hlt' : (k : Int) < 4 := by omega
      by_cases h1 : n / 2 ^ (k + 1) % 2 = 1
      · have HH := Lib.hid h1
        clear h1
        go_wp2_with (first | (go_at_call 44; refine (within4_one _ HH.out _).mono ?_; rintro r w5 ⟨rfl, rfl⟩) | (at_builtin; refine list_appends elt_ints _ _ rfl rfl rfl rfl (World.ownsRow.alloc HO.out _) (show [Value.int .i64 ((k + 1 : Nat) : Int)].length = 1 * 1 from rfl) (news_one (alloc_at _ _)) (by simp [Value.oneCell']) (by have := HL.out; omega) (by have := HB.out.size; simp; omega) ?_; intro v' w6 hown hgrow; have HO6 := Lib.hid hown; have HG6 := Lib.hid hgrow; clear hown hgrow))
        go_roundw
        case rel =>
          refine ⟨k + 1, by go_num, by omega, ?_, (below_alloc' HB.out _).grown HG6.out (by have := HB.out.size; simp; omega) (fun k hk => (HO.out.lt k hk).1)⟩
          have := HO6.out
          unfold Ints
          rw [peersM_yes (.inl HH.out), List.map_append, List.length_append]
          exact this
        case measure => simp [intOf]; omega
      · have HH := Lib.hid h1
        clear h1
        by_cases h3 : k = 3
        · subst h3
          by_cases h0 : (peersM n 3).length = 0
          · have hz : ((((peersM n 3).length : Nat) : Int) == 0) = true := by rw [h0]; rfl
            have H0 := Lib.hid h0
            clear h0
            go_wp2_with (first | (go_at_call 44; refine (within4_nil _ HH.out _).mono ?_; rintro r w5 ⟨rfl, rfl⟩) | (at_builtin; refine list_appends elt_ints _ _ rfl rfl rfl rfl (World.ownsRow.alloc HO.out _) (show [Value.int .i64 4].length = 1 * 1 from rfl) (news_one (alloc_at _ _)) (by simp [Value.oneCell']) (by have := HL.out; omega) (by have := HB.out.size; simp; omega) ?_; intro v' w6 hown hgrow; have HO6 := Lib.hid hown; have HG6 := Lib.hid hgrow; clear hown hgrow))
            go_roundw
            case rel =>
              refine ⟨3 + 1, by go_num, by omega, ?_, (below_alloc' HB.out _).grown HG6.out (by have := HB.out.size; simp; omega) (fun k hk => (HO.out.lt k hk).1)⟩
              have := HO6.out
              unfold Ints
              rw [peersM_yes (.inr ⟨rfl, H0.out⟩), List.map_append, List.length_append]
              exact this
            case measure => simp [intOf]
          · have hz : ((((peersM n 3).length : Nat) : Int) == 0) = false := beq_eq_false_iff_ne.mpr (by omega)
            have H0 := Lib.hid h0
            clear h0
            go_wp2_with (go_at_call 44; refine (within4_nil _ HH.out _).mono ?_; rintro r w5 ⟨rfl, rfl⟩)
            go_roundw
            case rel => exact ⟨3 + 1, by go_num, by omega, by rw [peersM_no (fun h => h.elim HH.out (fun h => H0.out h.2))]; exact HO.out, HB.out⟩
            case measure => simp [intOf]
        · have hne : (((k : Int) + 1) == 4) = false := beq_eq_false_iff_ne.mpr (by omega)
          have H3 := Lib.hid h3
          clear h3
          go_wp2_with (go_at_call 44; refine (within4_nil _ HH.out _).mono ?_; rintro r w5 ⟨rfl, rfl⟩)
          go_roundw
          case rel => exact ⟨k + 1, by go_num, by omega, by rw [peersM_no (fun h => h.elim HH.out (fun h => H3.out h.1))]; exact HO.out, HB.out⟩
          case measure => simp [intOf]; omega
    · obtain rfl : k = 4 := by omega
      go_wp2
      go_ret
      exact ⟨_, rfl, HO.out, HB.out⟩

def peersL (n : Int) : List Nat := (peersM n 4).map Int.toNat
theorem peersL_back (n : Int) : ∀ k, (peersM n k).map (fun z => (Int.toNat z : Int)) = peersM n k
  | 0 => rfl
  | k + 1 => by
    have := peersL_back n k
    unfold peersM
    split
    · have hm : max ((k : Int) + 1) 0 = (k : Int) + 1 := by omega
      rw [List.map_append, this]; simp [hm]
    · exact this
theorem peers_rises (n : Int) : peersB (peersL n) = true := by
  by_cases h1 : n / 2 ^ (0 + 1) % 2 = 1 <;> by_cases h2 : n / 2 ^ (1 + 1) % 2 = 1 <;> by_cases h3 : n / 2 ^ (2 + 1) % 2 = 1 <;> by_cases h4 : n / 2 ^ (3 + 1) % 2 = 1 <;> simp only [Nat.reduceAdd, Nat.reducePow, Int.reducePow] at h1 h2 h3 h4 <;> simp [peersL, peersM, h1, h2, h3, h4, peersB, risesN]
theorem peers_row {w : World} {base : Nat} {v : Value} {n : Int} (h : Ints base w v (peersM n 4)) : w.ownsRow base 3 1 v (peersL n).length ((peersL n).map fun k : Nat => Value.int .i64 k) := by
  unfold Ints at h
  have e : (peersL n).map (fun k : Nat => Value.int .i64 k) = (peersM n 4).map (Value.int .i64) := by
    rw [← peersL_back n 4]
    simp [peersL, Function.comp]
  rw [e]
  simpa [peersL] using h
end Go.Proofs.YtofofjfmhaggmaaGreatDoor
