/- A pod as a text, by play. -/
import Derived.Test.YtikamehjeaoilaaGreatDoorJb
import Derived.Test.YtikamehjeaoilaaGreatDoorTg
set_option linter.unusedVariables false
set_option linter.unusedSimpArgs false
namespace Go.Proofs.YtikamehjeaoilaaGreatDoor
open Go.RowKit

theorem rowT_app (c : UInt8) (a b : List (List UInt8)) : rowT c (a ++ b) = rowT c a ++ rowT c b := by simp [rowT]
theorem rowT_next {c : UInt8} {ls : List (List UInt8)} {i : Nat} (h : i < ls.length) : rowT c (ls.take (i + 1)) = rowT c (ls.take i) ++ c :: ls[i] := by
  rw [List.take_succ_eq_append_getElem h, rowT_app]
  simp [rowT]
theorem rowT_le (c : UInt8) (ls : List (List UInt8)) (i : Nat) : (rowT c (ls.take i)).length ≤ (rowT c ls).length := by
  have h := congrArg List.length (rowT_app c (ls.take i) (ls.drop i))
  rw [List.take_append_drop, List.length_append] at h
  omega
theorem dec_len' (k : Nat) (h : k ≤ 9223372036854775807) : (Lib.decDigits k).length ≤ 21 := by
  have := Lib.itoa_length_le k (by omega) (by omega)
  rwa [Lib.itoa_nonneg] at this
end Go.Proofs.YtikamehjeaoilaaGreatDoor
