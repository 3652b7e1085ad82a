/- The shelf's words on cutting and splitting, and the plain ones. -/
import Derived.Test.YtikamehjeaoilaaGreatDoorPx
import Derived.Lib.SplitLaws
import Derived.Lib.Split
set_option linter.unusedVariables false
set_option linter.unusedSimpArgs false
namespace Go.Proofs.YtikamehjeaoilaaGreatDoor
open Go

theorem index_byte (c : UInt8) : ∀ s : List UInt8, (Lib.index s [c] = -1 ∧ c ∉ s ∧ splitC c s = [s]) ∨
    ∃ i : Nat, Lib.index s [c] = i ∧ i < s.length ∧ c ∈ s ∧ s.takeWhile (· ≠ c) = s.take i ∧ (s.dropWhile (· ≠ c)).tail = s.drop (i + 1) ∧ splitC c s = s.take i :: splitC c (s.drop (i + 1)) ∧ s.count c = 1 + (s.drop (i + 1)).count c
  | [] => .inl ⟨rfl, by simp, rfl⟩
  | x :: t => by
    by_cases hx : x = c
    · right
      subst hx
      exact ⟨0, by simp [Lib.index], by simp, by simp, by simp, by simp, by simp [splitC], by simp [Nat.add_comm]⟩
    · have hpre : [c].isPrefixOf (x :: t) = false := by simp [List.isPrefixOf]; exact fun e => hx e.symm
      rcases index_byte c t with ⟨h1, h2, h3⟩ | ⟨i, h1, h2, h3, h4, h5, h6, h7⟩
      · left
        refine ⟨by rw [Lib.index, hpre, h1]; rfl, fun hm => ?_, by rw [splitC, if_neg hx, h3]⟩
        rcases List.mem_cons.1 hm with e | hm
        · exact hx e.symm
        · exact h2 hm
      · right
        refine ⟨i + 1, ?_, by simp; omega, List.mem_cons_of_mem _ h3, ?_, ?_, ?_, ?_⟩
        · rw [Lib.index, hpre, h1]
          have : ((i : Int) == -1) = false := beq_eq_false_iff_ne.2 (by omega)
          simp [this]
        · rw [List.takeWhile_cons, if_pos (by simpa using hx), h4, List.take_succ_cons]
        · rw [List.dropWhile_cons, if_pos (by simpa using hx), h5, List.drop_succ_cons]
        · rw [splitC, if_neg hx, h6]; simp
        · rw [List.count_cons_of_ne (by simpa using hx), h7, List.drop_succ_cons]
theorem cut_C (s : List UInt8) (c : UInt8) : Lib.cut s [c] = cutC c s := by
  unfold Lib.cut cutC
  rcases index_byte c s with ⟨h1, h2, _⟩ | ⟨i, h1, h2, h3, h4, h5, _⟩
  · rw [h1, if_neg (by decide), if_neg h2]
  · rw [h1, if_pos (by omega), if_pos h3, h4, h5]; simp
theorem splitK_C (c : UInt8) : ∀ (k : Nat) (s : List UInt8), s.count c = k → Lib.splitK [c] 0 k s = splitC c s
  | 0, s, h => by
    rcases index_byte c s with ⟨_, _, h3⟩ | ⟨i, _, _, _, _, _, _, h7⟩
    · rw [h3]; rfl
    · omega
  | k + 1, s, h => by
    rcases index_byte c s with ⟨_, h2, _⟩ | ⟨i, h1, h2, h3, h4, h5, h6, h7⟩
    · rw [List.count_eq_zero.2 h2] at h; omega
    · rw [Lib.splitK, h1, if_neg (by intro e; have := beq_iff_eq.1 e; omega), h6]
      simp only [Int.toNat_natCast, Nat.add_zero, List.length_cons, List.length_nil, Nat.zero_add]
      rw [splitK_C c k _ (by omega)]
theorem split_C (s : List UInt8) (c : UInt8) : Lib.split s [c] = splitC c s := by
  unfold Lib.split
  rw [Lib.count_one]
  exact splitK_C c _ s rfl
/-- A line's words, parted by one blank; none, if one is empty. -/
def wordsL (s : List UInt8) : List (List UInt8) := if [] ∈ splitC 32 s then [] else splitC 32 s
theorem splitC_app {c : UInt8} : ∀ (a b : List UInt8), c ∉ a → splitC c (a ++ b) = match splitC c b with | h :: r => (a ++ h) :: r | [] => [a]
  | [], b, _ => by
    match hs : splitC c b with
    | [] => exact absurd hs (splitC_ne c b)
    | h :: r => simp [hs]
  | x :: a, b, h => by
    have ih := splitC_app a b (fun hm => h (List.mem_cons_of_mem _ hm))
    rw [List.cons_append, splitC, if_neg (fun e => h (by rw [e]; exact List.mem_cons_self ..)), ih]
    match hs : splitC c b with
    | [] => exact absurd hs (splitC_ne c b)
    | h :: r => rfl
end Go.Proofs.YtikamehjeaoilaaGreatDoor
