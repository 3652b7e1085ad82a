/- The program's way to take parts of a word, as plain functions; it comes to the same nodes. -/
import Derived.Test.YtikamehjeaoilaaGreatDoorPw
import Derived.Test.YtikamehjeaoilaaGreatDoorPv
set_option linter.unusedVariables false
set_option linter.unusedSimpArgs false
namespace Go.Proofs.YtikamehjeaoilaaGreatDoor
open Go

def numX (l : List UInt8) : Nat × List UInt8 × Bool :=
  if 15 < (l.takeWhile dig).length ∨ (1 < (l.takeWhile dig).length ∧ (l.takeWhile dig).head? = some 48) then (0, l, true) else (val (l.takeWhile dig), l.dropWhile dig, decide (l.takeWhile dig = []))
theorem numX_some {l t : List UInt8} {n : Nat} (h : pNum 999999999999999 l = some (n, t)) : numX l = (n, t, false) := by
  obtain ⟨rfl, h1, h2⟩ := pNum_inv h
  obtain ⟨d1, d2, d3⟩ := dec_num n
  obtain ⟨e1, e2⟩ := takeWhile_app d2 h2
  have hl : (Lib.decDigits n).length ≤ 15 := by
    rcases num_len (dec_num n) with h3 | h3
    · rw [val_dec] at h3
      rcases Nat.lt_or_ge 15 (Lib.decDigits n).length with h4 | h4
      · have h5 : 10 ^ 15 ≤ 10 ^ ((Lib.decDigits n).length - 1) := Nat.pow_le_pow_right (by decide) (by omega)
        have : (10 : Nat) ^ 15 = 1000000000000000 := by decide
        omega
      · exact h4
    · omega
  unfold numX
  rw [e1, e2, val_dec, if_neg]
  · simp [d1]
  · rintro (h | ⟨h, k⟩)
    · omega
    · have := d3 k; omega
theorem numX_none {l : List UInt8} (h : pNum 999999999999999 l = none) : (numX l).2.2 = true := by
  unfold pNum at h
  split at h
  · rename_i hc
    unfold numX
    by_cases hb : 15 < (l.takeWhile dig).length ∨ (1 < (l.takeWhile dig).length ∧ (l.takeWhile dig).head? = some 48)
    · rw [if_pos hb]
    · rw [if_neg hb]
      rcases hc with hc | ⟨h1, h2⟩ | hc
      · simp [hc]
      · exact absurd (.inr ⟨h2, h1⟩) hb
      · exfalso
        have h1 := val_lt _ (takeWhile_all (p := dig) l)
        have h2 : 10 ^ (l.takeWhile dig).length ≤ 10 ^ 15 := Nat.pow_le_pow_right (by decide) (by omega)
        have : (10 : Nat) ^ 15 = 1000000000000000 := by decide
        omega
  · cases h
def nameX (l : List UInt8) : List UInt8 × List UInt8 × Bool := (l.takeWhile (fun c => !parting c), l.dropWhile (fun c => !parting c), decide (l.takeWhile (fun c => !parting c) = []))
theorem nameX_p (l : List UInt8) : pName l = if (nameX l).2.2 = true then none else some ((nameX l).1, (nameX l).2.1) := by
  unfold pName nameX
  by_cases h : l.takeWhile (fun c => !parting c) = []
  · simp [h]
  · simp only [h, decide_false, Bool.false_eq_true, if_false]
def rowX (c : UInt8) : Nat → List UInt8 → List (List UInt8) × List UInt8 × Bool
  | k + 1, l => if (pSign c l).1 = true then ((nameX (pSign c l).2).1 :: (rowX c k (nameX (pSign c l).2).2.1).1, (rowX c k (nameX (pSign c l).2).2.1).2.1, (nameX (pSign c l).2).2.2 || (rowX c k (nameX (pSign c l).2).2.1).2.2) else ([], l, false)
  | 0, l => ([], l, false)
theorem rowX_p (c : UInt8) : ∀ k l, pRow c k l = if (rowX c k l).2.2 = true then none else some ((rowX c k l).1, (rowX c k l).2.1)
  | 0, l => by simp [pRow, rowX]
  | k + 1, l => by
    rw [pRow, rowX]
    by_cases h : (pSign c l).1 = true
    · rw [if_pos h, if_pos h, nameX_p]
      cases hn : (nameX (pSign c l).2).2.2 with
      | true => simp
      | false =>
        simp only [Bool.false_eq_true, if_false, Option.bind_some, Bool.false_or]
        rw [rowX_p c k]
        cases hr : (rowX c k (nameX (pSign c l).2).2.1).2.2 <;> simp
    · rw [if_neg h, if_neg h]; simp
theorem sign_len (c : UInt8) (l : List UInt8) : (pSign c l).2.length = l.length - if (pSign c l).1 then 1 else 0 := by
  cases l with
  | nil => rfl
  | cons x l => by_cases h : x = c <;> simp [pSign, h]
theorem nameX_len (l : List UInt8) : (nameX l).2.1.length ≤ l.length := by
  have : (l.takeWhile (fun c => !parting c) ++ l.dropWhile (fun c => !parting c)).length = l.length := by rw [List.takeWhile_append_dropWhile]
  rw [List.length_append] at this
  show (l.dropWhile _).length ≤ _
  omega
def vecX (l : List UInt8) : (Nat × Nat) × List UInt8 × Bool :=
  (((numX l).1, (numX (pSign 44 (numX l).2.1).2).1), (numX (pSign 44 (numX l).2.1).2).2.1, ((numX l).2.2 || !(pSign 44 (numX l).2.1).1) || (numX (pSign 44 (numX l).2.1).2).2.2)
theorem numX_p (l : List UInt8) : pNum 999999999999999 l = if (numX l).2.2 = true then none else some ((numX l).1, (numX l).2.1) := by
  cases h : pNum 999999999999999 l with
  | some r =>
    obtain ⟨n, t⟩ := r
    rw [numX_some h]; simp
  | none => rw [if_pos (numX_none h)]
theorem mustX_p (c : UInt8) (l : List UInt8) : pMust c l = if (pSign c l).1 = true then some (pSign c l).2 else none := rfl
theorem vecX_p (l : List UInt8) : pVec 999999999999999 l = if (vecX l).2.2 = true then none else some ((vecX l).1, (vecX l).2.1) := by
  unfold pVec vecX
  rw [numX_p]
  cases h1 : (numX l).2.2 with
  | true => simp
  | false =>
    simp only [Bool.false_eq_true, if_false, Option.bind_some, mustX_p, Bool.false_or]
    cases h2 : (pSign 44 (numX l).2.1).1 with
    | false => simp
    | true =>
      simp only [if_true, Option.bind_some, Bool.not_true, Bool.false_or]
      rw [numX_p]
      cases h3 : (numX (pSign 44 (numX l).2.1).2).2.2 <;> simp
/-- What a word's node is, what is left of the word, whether something was wrong. -/
def nodeX (l : List UInt8) : NodeL × List UInt8 × Bool :=
  let n := nameX l
  let c := pSign 58 n.2.1
  let v := vecX c.2
  let a := rowX 43 v.2.1.length v.2.1
  let b := rowX 126 a.2.1.length a.2.1
  let s := pSign 33 b.2.1
  (⟨n.1, v.1.1, v.1.2, a.1, b.1, s.1⟩, s.2, (((n.2.2 || !c.1) || v.2.2) || a.2.2) || b.2.2)
theorem nodeX_p (l : List UInt8) : pNode 999999999999999 l = if (!(nodeX l).2.2 && decide ((nodeX l).2.1 = [])) = true then some (nodeX l).1 else none := by
  unfold pNode nodeX pTail
  simp only
  rw [nameX_p]
  cases h1 : (nameX l).2.2 with
  | true => simp
  | false =>
    simp only [Bool.false_eq_true, if_false, Option.bind_some, mustX_p, Bool.false_or]
    cases h2 : (pSign 58 (nameX l).2.1).1 with
    | false => simp
    | true =>
      simp only [if_true, Option.bind_some, Bool.not_true, Bool.false_or, vecX_p]
      cases h3 : (vecX (pSign 58 (nameX l).2.1).2).2.2 with
      | true => simp
      | false =>
        simp only [Bool.false_eq_true, if_false, Option.bind_some, Bool.false_or, rowX_p]
        cases h4 : (rowX 43 (vecX (pSign 58 (nameX l).2.1).2).2.1.length (vecX (pSign 58 (nameX l).2.1).2).2.1).2.2 with
        | true => simp
        | false =>
          simp only [Bool.false_eq_true, if_false, Option.bind_some, Bool.false_or]
          cases h5 : (rowX 126 (rowX 43 (vecX (pSign 58 (nameX l).2.1).2).2.1.length (vecX (pSign 58 (nameX l).2.1).2).2.1).2.1.length (rowX 43 (vecX (pSign 58 (nameX l).2.1).2).2.1.length (vecX (pSign 58 (nameX l).2.1).2).2.1).2.1).2.2 with
          | true => simp
          | false =>
            simp only [Bool.false_eq_true, if_false, Option.bind_some, Bool.not_false, Bool.true_and]
            by_cases h6 : (pSign 33 (rowX 126 (rowX 43 (vecX (pSign 58 (nameX l).2.1).2).2.1.length (vecX (pSign 58 (nameX l).2.1).2).2.1).2.1.length (rowX 43 (vecX (pSign 58 (nameX l).2.1).2).2.1.length (vecX (pSign 58 (nameX l).2.1).2).2.1).2.1).2.1).2 = []
            · simp [h6]
            · simp [h6]
end Go.Proofs.YtikamehjeaoilaaGreatDoor
