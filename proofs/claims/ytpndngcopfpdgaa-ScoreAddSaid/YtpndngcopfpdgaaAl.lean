/- ScoreAdd: the plain law. -/
import Derived.Test.YtpndngcopfpdgaaBest
set_option linter.unusedVariables false
set_option linter.unusedSimpArgs false
namespace Go.Proofs.Ytpndngcopfpdgaa
open Go.RowKit

/-- Only the first k matter. -/
theorem bestTo_congr {xs ys : List ByteArray} {ss ts : List Int} : ∀ k, (∀ i, i < k → xs.getD i ByteArray.empty = ys.getD i ByteArray.empty ∧ ss.getD i 0 = ts.getD i 0) → bestTo xs ss k = bestTo ys ts k
  | 0, _ => rfl
  | k + 1, h => by
    have ih := bestTo_congr (xs := xs) (ys := ys) (ss := ss) (ts := ts) k fun i hi => h i (by omega)
    have hbd := bestTo_bd ys ts k
    have hb : better xs ss (bestTo xs ss k) k = better ys ts (bestTo ys ts k) k := by
      rw [ih]
      by_cases h0 : bestTo ys ts k < 0
      · simp [better, h0]
      · have := h (bestTo ys ts k).toNat (by omega)
        have h2 := h k (by omega)
        simp only [better, this.1, this.2, h2.1, h2.2]
    show (if better xs ss (bestTo xs ss k) k = true then (k : Int) else bestTo xs ss k) = (if better ys ts (bestTo ys ts k) k = true then (k : Int) else bestTo ys ts k)
    rw [hb, ih]
theorem getD_app {α : Type} (l : List α) (x d : α) {i : Nat} (h : i < l.length) : (l ++ [x]).getD i d = l.getD i d := by
  simp [List.getD_eq_getElem?_getD, List.getElem?_append_left h]
theorem getD_last {α : Type} (l : List α) (x d : α) {n : Nat} (h : l.length = n) : (l ++ [x]).getD n d = x := by
  subst h
  simp [List.getD_eq_getElem?_getD]
theorem best_less {xs : List ByteArray} {ss : List Int} {n : Nat} (hx : xs.length = n) (hs : ss.length = n) (h0 : 0 < n) (x : ByteArray) {y : Int} (hy : y < ss.getD (bestTo xs ss n).toNat 0) : bestTo (xs ++ [x]) (ss ++ [y]) (n + 1) = bestTo xs ss n := by
  have hbd := bestTo_bd xs ss n
  have hb0 := hbd.2.2 h0
  have e : bestTo (xs ++ [x]) (ss ++ [y]) n = bestTo xs ss n := bestTo_congr n fun i hi => ⟨getD_app _ _ _ (by omega), getD_app _ _ _ (by omega)⟩
  show (if better _ _ (bestTo (xs ++ [x]) (ss ++ [y]) n) n = true then (n : Int) else bestTo (xs ++ [x]) (ss ++ [y]) n) = _
  rw [e, if_neg]
  simp only [better, getD_last ss y 0 hs, getD_app ss y 0 (show (bestTo xs ss n).toNat < ss.length by omega), Bool.or_eq_true, decide_eq_true_eq, Bool.and_eq_true, beq_iff_eq, not_or, not_and]
  exact ⟨⟨by omega, by omega⟩, fun h => by omega⟩
theorem best_more {xs : List ByteArray} {ss : List Int} {n : Nat} (hx : xs.length = n) (hs : ss.length = n) (h0 : 0 < n) (x : ByteArray) {y : Int} (hy : ss.getD (bestTo xs ss n).toNat 0 < y) : bestTo (xs ++ [x]) (ss ++ [y]) (n + 1) = n := by
  have hbd := bestTo_bd xs ss n
  have hb0 := hbd.2.2 h0
  have e : bestTo (xs ++ [x]) (ss ++ [y]) n = bestTo xs ss n := bestTo_congr n fun i hi => ⟨getD_app _ _ _ (by omega), getD_app _ _ _ (by omega)⟩
  show (if better _ _ (bestTo (xs ++ [x]) (ss ++ [y]) n) n = true then (n : Int) else bestTo (xs ++ [x]) (ss ++ [y]) n) = _
  rw [e, if_pos]
  simp only [better, getD_last ss y 0 hs, getD_app ss y 0 (show (bestTo xs ss n).toNat < ss.length by omega), Bool.or_eq_true, decide_eq_true_eq]
  exact .inl (.inr hy)
theorem noBetter_anti {xs : List ByteArray} {ss : List Int} {b i : Nat} (h : NoBetter xs ss b i) (k : NoBetter xs ss i b) : b = i := by
  rcases h with h | ⟨h, h'⟩
  · rcases k with k | ⟨k, _⟩ <;> omega
  · rcases k with k | ⟨k, k'⟩
    · omega
    · rcases h' with h' | ⟨h', h2⟩
      · rcases k' with k' | ⟨k', _⟩
        · have := less_trans _ _ _ h' k'
          rw [less_irrefl] at this
          cases this
        · rw [k', less_irrefl] at h'
          cases h'
      · rcases k' with k' | ⟨_, k2⟩
        · rw [h', less_irrefl] at k'
          cases k'
        · omega
theorem getD_set {l : List Int} {i j : Nat} {y : Int} : (l.set i y).getD j 0 = if i = j ∧ i < l.length then y else l.getD j 0 := by
  by_cases h : i = j
  · subst h
    by_cases h2 : i < l.length
    · rw [if_pos ⟨rfl, h2⟩]
      simp [List.getD_eq_getElem?_getD, h2]
    · rw [if_neg (fun h => h2 h.2), List.set_eq_of_length_le (by omega)]
  · rw [if_neg (fun k => h k.1)]
    simp [List.getD_eq_getElem?_getD, List.getElem?_set_ne h]
/-- A worse one made worse changes nothing. -/
theorem best_low {xs : List ByteArray} {ss : List Int} {n i : Nat} (hs : ss.length = n) (h0 : 0 < n) (hi : i < n) (hne : (i : Int) ≠ bestTo xs ss n) {y : Int} (hy : y < ss.getD i 0) : bestTo xs (ss.set i y) n = bestTo xs ss n := by
  have hbd := bestTo_bd xs ss n
  have hbd' := bestTo_bd xs (ss.set i y) n
  have hb := hbd.2.2 h0
  have hb' := hbd'.2.2 h0
  have h1 := bestTo_spec xs ss n h0 (bestTo xs (ss.set i y) n).toNat (by omega)
  have h2 := bestTo_spec xs (ss.set i y) n h0 (bestTo xs ss n).toNat (by omega)
  generalize hk : bestTo xs ss n = k at *
  generalize hj : bestTo xs (ss.set i y) n = j at *
  have ek : (ss.set i y).getD k.toNat 0 = ss.getD k.toNat 0 := by rw [getD_set, if_neg (by omega)]
  by_cases hji : j.toNat = i
  · have ej : (ss.set i y).getD j.toNat 0 = y := by rw [getD_set, if_pos (by omega)]
    exfalso
    have h3 : ss.getD k.toNat 0 ≤ y := by
      rcases h2 with h2 | ⟨h2, _⟩ <;> rw [ek, ej] at h2 <;> omega
    rw [hji] at h1
    rcases h1 with h1 | ⟨h1, _⟩ <;> omega
  · have ej : (ss.set i y).getD j.toNat 0 = ss.getD j.toNat 0 := by rw [getD_set, if_neg (by omega)]
    have h3 : NoBetter xs ss j.toNat k.toNat := by
      unfold NoBetter at h2 ⊢
      rw [ek, ej] at h2
      exact h2
    have := noBetter_anti h1 h3
    omega
end Go.Proofs.Ytpndngcopfpdgaa
