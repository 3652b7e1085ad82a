/- A node's record as a line. -/
import Derived.Test.YtikamehjeaoilaaGreatDoorJc
import Derived.Test.YtikamehjeaoilaaGreatDoorLq
set_option linter.unusedVariables false
set_option linter.unusedSimpArgs false
namespace Go.Proofs.YtikamehjeaoilaaGreatDoor
open Go.RowKit

/-- Texts that can be read. -/
def Rows (w : World) (v : Value) (ls : List (List UInt8)) : Prop := ∃ a c, v = .slice a ls.length c ∧ ls.length ≤ 4294967281 ∧ ∀ i (h : i < ls.length), ∃ b off, a = some ⟨b, off, none⟩ ∧ w.cell? ⟨b, off + i, none⟩ = some (.string (str ls[i]))
theorem Rows.below {w w' : World} {v : Value} {ls : List (List UInt8)} (h : Rows w v ls) (k : Below w.heap.size w w') : Rows w' v ls := by
  obtain ⟨a, c, e, hl, hc⟩ := h
  exact ⟨a, c, e, hl, fun i hi => by obtain ⟨b, off, e1, e2⟩ := hc i hi; exact ⟨b, off, e1, cell_below e2 k⟩⟩
theorem Strs.rows {base : Nat} {w : World} {v : Value} {ls : List (List UInt8)} (h : Strs base w v (ls.map str)) (hl : ls.length ≤ 4294967281) : Rows w v ls := by
  unfold Strs at h
  rw [List.length_map] at h
  rcases own_forms h with ⟨rfl, h1, _⟩ | ⟨g, cap, rfl, _, _⟩
  · have : ls = [] := List.length_eq_zero_iff.1 h1
    subst this
    exact ⟨none, 0, rfl, hl, fun i hi => absurd hi (Nat.not_lt_zero _)⟩
  · refine ⟨_, cap, rfl, hl, fun i hi => ⟨g, 0, rfl, ?_⟩⟩
    rw [Nat.zero_add, h.cellAt i (by omega), List.getElem?_map, List.getElem?_map, List.getElem?_eq_getElem hi]
    rfl
end Go.Proofs.YtikamehjeaoilaaGreatDoor
/-! A node's record as a line, whole. -/
set_option linter.unusedVariables false
set_option linter.unusedSimpArgs false
namespace Go.Proofs.YtikamehjeaoilaaGreatDoor
open Go.RowKit

theorem node_str (n : NodeL) : str n.name ++ (⟨#[58]⟩ : ByteArray) ++ str (vecT n.cpu n.mem) ++ str (rowT 43 n.marks) ++ str (rowT 126 n.taints) ++ str (flagT n.closed) = str (nodeT n) := by
  rw [show (⟨#[58]⟩ : ByteArray) = str [58] from rfl]
  simp only [str_append]
  congr 1
  simp [nodeT, tailT]
end Go.Proofs.YtikamehjeaoilaaGreatDoor
