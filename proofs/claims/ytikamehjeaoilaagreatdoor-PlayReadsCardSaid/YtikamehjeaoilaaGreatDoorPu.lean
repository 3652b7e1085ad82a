/- Marks, names, pods, nodes, events by numbers, as plain lists of bytes: each may be. -/
import Derived.Test.YtikamehjeaoilaaGreatDoorPw
import Derived.WalkKit
set_option linter.unusedVariables false
set_option linter.unusedSimpArgs false
namespace Go.Proofs.YtikamehjeaoilaaGreatDoor
open Go Go.RowKit

abbrev qd (n k : Int) : Int := wrap64 (n.tdiv k)
def marksT : List (List UInt8) := [[98, 105, 103], [115, 115, 100], [119, 101, 115, 116], [206, 179]]
/-- Marks by a number: the first k looked at. -/
def setQ (n : Int) : Nat → List (List UInt8)
  | 0 => []
  | k + 1 => if (n / 2 ^ k) % 2 = 1 then setQ n k ++ [marksT.getD k []] else setQ n k
theorem setQ_good (n : Int) : setB (setQ n 4) = true := by
  unfold setQ setQ setQ setQ setQ
  simp only [show (2 : Int) ^ 0 = 1 by decide, show (2 : Int) ^ 1 = 2 by decide, show (2 : Int) ^ 2 = 4 by decide, show (2 : Int) ^ 3 = 8 by decide]
  by_cases h0 : n / 1 % 2 = 1 <;> by_cases h1 : n / 2 % 2 = 1 <;> by_cases h2 : n / 4 % 2 = 1 <;> by_cases h3 : n / 8 % 2 = 1 <;> simp only [h0, h1, h2, h3, if_true, if_false] <;> decide +kernel
def namesT : List (List UInt8) := [[97], [98], [206, 177], [207, 137, 57], [110, 49], [110, 50], [206, 178, 206, 179, 206, 180, 206, 181, 206, 182, 206, 183, 206, 184, 206, 185], [122, 122]]
def nameQ (n : Int) : List UInt8 := namesT.getD (n % 8).toNat []
theorem nameQ_good (n : Int) : nameB (nameQ n) = true := by
  have h1 := Int.emod_nonneg n (show (8 : Int) ≠ 0 by decide)
  have h2 := Int.emod_lt_of_pos n (show (0 : Int) < 8 by decide)
  unfold nameQ
  obtain h | h | h | h | h | h | h | h : (n % 8).toNat = 0 ∨ (n % 8).toNat = 1 ∨ (n % 8).toNat = 2 ∨ (n % 8).toNat = 3 ∨ (n % 8).toNat = 4 ∨ (n % 8).toNat = 5 ∨ (n % 8).toNat = 6 ∨ (n % 8).toNat = 7 := by omega
  all_goals (rw [h]; decide +kernel)
/-- A pod by a number. -/
def podQ (at' : Nat) (n shards : Int) : PodL :=
  ⟨[112, UInt8.ofNat (97 + at')], (1 + n % shards).toNat, (qd n 4 % 5).toNat, (qd n 20 % 5).toNat, if qd n 100 % 5 = 0 then setQ (qd n 500) 4 else [], if qd n 7 % 3 = 0 then setQ (qd n 11) 4 else [], decide (qd n 13 % 6 = 0)⟩
theorem setB_if (c : Prop) [Decidable c] (n : Int) : setB (if c then setQ n 4 else []) = true := by
  split
  · exact setQ_good n
  · decide
theorem podQ_good {at' : Nat} (ha : at' < 8) (n : Int) {shards : Int} (h0 : 0 < shards) (h1 : shards ≤ 4) : (podQ at' n shards).good := by
  have a1 := Int.emod_nonneg n (show shards ≠ 0 by omega)
  have a2 := Int.emod_lt_of_pos n h0
  have b1 := Int.emod_lt_of_pos (qd n 4) (show (0 : Int) < 5 by decide)
  have b2 := Int.emod_lt_of_pos (qd n 20) (show (0 : Int) < 5 by decide)
  refine ⟨?_, ?_, ?_, ?_, setB_if _ _, setB_if _ _⟩
  · show nameB [112, UInt8.ofNat (97 + at')] = true
    obtain rfl | rfl | rfl | rfl | rfl | rfl | rfl | rfl : at' = 0 ∨ at' = 1 ∨ at' = 2 ∨ at' = 3 ∨ at' = 4 ∨ at' = 5 ∨ at' = 6 ∨ at' = 7 := by omega
    all_goals decide +kernel
  · show (1 + n % shards).toNat ≤ 999999; omega
  · show (qd n 4 % 5).toNat ≤ 1099511627776; omega
  · show (qd n 20 % 5).toNat ≤ 1099511627776; omega
def podsQ (ns : List Int) (k : Nat) (s : Int) : List PodL := (List.range k).map fun i => podQ i (ns.getD i 0) s
/-- A gang's pods by numbers: at least one. -/
def gangQ (id : Int) (ns : List Int) (s : Int) : List PodL := if ns = [] then [podQ 0 id s] else podsQ ns (min 8 ns.length) s
theorem gangQ_good (id : Int) (ns : List Int) {s : Int} (h0 : 0 < s) (h1 : s ≤ 4) : ∀ p ∈ gangQ id ns s, p.good := by
  intro p hp
  unfold gangQ at hp
  split at hp
  · obtain rfl := List.mem_singleton.1 hp
    exact podQ_good (by decide) _ h0 h1
  · obtain ⟨i, hi, rfl⟩ := List.mem_map.1 hp
    rw [List.mem_range] at hi
    exact podQ_good (by omega) _ h0 h1
def nodeQ (name n : Int) : NodeL := ⟨nameQ name, (n % 12).toNat, (qd n 12 % 12).toNat, setQ (qd n 144) 4, if qd n 23 % 3 = 0 then setQ (qd n 31) 4 else [], decide (qd n 17 % 9 = 0)⟩
theorem nodeQ_good (name n : Int) : (nodeQ name n).good := by
  have b1 := Int.emod_lt_of_pos n (show (0 : Int) < 12 by decide)
  have b2 := Int.emod_lt_of_pos (qd n 12) (show (0 : Int) < 12 by decide)
  refine ⟨nameQ_good _, ?_, ?_, setQ_good _, setB_if _ _⟩
  · show (n % 12).toNat ≤ 1099511627776; omega
  · show (qd n 12 % 12).toNat ≤ 1099511627776; omega
/-- An event by numbers. -/
def evQ (kind a b : Int) (ps : List Int) (n : Int) : EvL :=
  let k := (1 + kind % 11).toNat
  if k = 1 then ⟨1, 0, 0, (a % 1000000).toNat, if b % 9 = 0 then [] else gangQ a ps 4, noNode⟩
  else if k = 4 then ⟨4, (a % 9).toNat, 0, 0, [], nodeQ b n⟩
  else if k = 5 then ⟨5, (a % 9).toNat, 0, 0, [], ⟨nameQ b, 0, 0, [], [], false⟩⟩
  else if k = 10 then ⟨10, (a % 1000000).toNat, (b % 1000000).toNat, 0, [], noNode⟩
  else ⟨k, (a % 1000000).toNat, 0, 0, [], noNode⟩
theorem evQ_good (kind a b : Int) (ps : List Int) (n : Int) : (evQ kind a b ps n).good := by
  have k1 := Int.emod_nonneg kind (show (11 : Int) ≠ 0 by decide)
  have k2 := Int.emod_lt_of_pos kind (show (0 : Int) < 11 by decide)
  have a1 := Int.emod_lt_of_pos a (show (0 : Int) < 1000000 by decide)
  have a2 := Int.emod_lt_of_pos a (show (0 : Int) < 9 by decide)
  have b1 := Int.emod_lt_of_pos b (show (0 : Int) < 1000000 by decide)
  unfold evQ
  simp only
  generalize hk : (1 + kind % 11).toNat = k
  have hk1 : 1 ≤ k ∧ k ≤ 11 := by omega
  split
  · refine ⟨by simp, by simp, by simp, by simp, ?_, ?_, by simp, by simp, by simp, by simp, by simp, by simp⟩
    · show (a % 1000000).toNat ≤ 999999; omega
    · intro p hp
      simp only at hp
      split at hp
      · cases hp
      · exact gangQ_good a ps (by decide) (by decide) p hp
  split
  · refine ⟨by simp, by simp, ?_, by simp, by simp, by simp, by simp, by simp, by simp, fun _ => nodeQ_good b n, by simp, by simp⟩
    show (a % 9).toNat ≤ 999999; omega
  split
  · refine ⟨by simp, by simp, ?_, by simp, by simp, by simp, by simp, by simp, by simp, by simp, fun _ => ⟨nameQ_good b, rfl⟩, by simp⟩
    show (a % 9).toNat ≤ 999999; omega
  split
  · refine ⟨by simp, by simp, ?_, ?_, by simp, by simp, by simp, by simp, by simp, by simp, by simp, by simp⟩
    · show (a % 1000000).toNat ≤ 999999; omega
    · show (b % 1000000).toNat ≤ 999999; omega
  · rename_i h1 h4 h5 h10
    refine ⟨hk1.1, hk1.2, ?_, by simp, by simp, by simp, fun h => absurd h h1, by simp, by simp, fun h => absurd h h4, fun h => absurd h h5, by simp⟩
    show (a % 1000000).toNat ≤ 999999; omega
end Go.Proofs.YtikamehjeaoilaaGreatDoor
