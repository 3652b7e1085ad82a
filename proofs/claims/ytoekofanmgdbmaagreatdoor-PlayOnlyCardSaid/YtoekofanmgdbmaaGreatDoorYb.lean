/- A string's bytes as a row: made, read, one turned, made a string again. -/
import Derived.Lib.ConvBytes
import Derived.Test.YtoekofanmgdbmaaGreatDoorW
import Derived.Test.YtoekofanmgdbmaaGreatDoorNm
set_option linter.unusedVariables false
set_option linter.unusedSimpArgs false
namespace Go.Proofs.YtoekofanmgdbmaaGreatDoor
open Go.RowKit

/-- Block b holds these bytes from its place 0 on; none of them is frozen. -/
def BytesAt (T : TypeId) (w : World) (b : Nat) (l : List UInt8) : Prop :=
  ∃ (cs : Array Value) (f g : Nat), w.heap[b]? = some (.cells cs T (f, g)) ∧ cs.size ≤ f ∧ l.length ≤ cs.size ∧ ∀ i, i < l.length → cs[i]? = some (.int .u8 (l.getD i 0).toNat)
theorem BytesAt.below {T : TypeId} {w w' : World} {b : Nat} {l : List UInt8} (h : BytesAt T w b l) (hb : Below w.heap.size w w') : BytesAt T w' b l := by
  obtain ⟨cs, f, g, h1, h2⟩ := h
  exact ⟨cs, f, g, block_below h1 hb, h2⟩
theorem BytesAt.cell {T : TypeId} {w : World} {b : Nat} {l : List UInt8} (h : BytesAt T w b l) {i : Nat} (hi : i < l.length) : w.cell? ⟨b, i, none⟩ = some (.int .u8 (l.getD i 0).toNat) := by
  obtain ⟨cs, f, g, h1, h2, h3, h4⟩ := h
  simp [World.cell?, h1, h4 i hi]
theorem BytesAt.free {T : TypeId} {w : World} {b : Nat} {l : List UInt8} (h : BytesAt T w b l) {i : Nat} (hi : i < l.length) : w.frozen? ⟨b, i, none⟩ = false := by
  obtain ⟨cs, f, g, h1, h2, h3, h4⟩ := h
  simp [World.frozen?, h1]
  omega
theorem BytesAt.set {T : TypeId} {w : World} {b : Nat} {l : List UInt8} (h : BytesAt T w b l) {i : Nat} (hi : i < l.length) (u : UInt8) : BytesAt T (w.setCell ⟨b, i, none⟩ (.int .u8 u.toNat)) b (l.set i u) := by
  obtain ⟨cs, f, g, h1, h2, h3, h4⟩ := h
  refine ⟨cs.setIfInBounds i (.int .u8 u.toNat), f, g, ?_, by simpa using h2, by simpa using h3, fun j hj => ?_⟩
  · unfold World.setCell
    simp [Array.getElem?_modify, h1]
  · rw [List.length_set] at hj
    rw [Array.getElem?_setIfInBounds]
    by_cases e : i = j
    · subst e
      rw [if_pos rfl, if_pos (by omega)]
      simp [List.getD_eq_getElem?_getD, hj]
    · rw [if_neg e, h4 j hj]
      simp [List.getD_eq_getElem?_getD, List.getElem?_set_ne e]
theorem bytes_new (T : TypeId) (w : World) (l : List UInt8) : BytesAt T (Lib.bytesWorld w T (str l)) w.heap.size l := by
  refine ⟨_, _, _, Lib.bytesWorld_at_new w T (str l), Nat.le_refl _, ?_, fun i hi => ?_⟩
  · unfold Lib.bytesCells
    simp [str]
  · have hs : i < (str l).data.size := by simpa [str] using hi
    unfold Lib.bytesCells
    rw [Array.getElem?_append_left (by simpa using hs)]
    simp [str, List.getD_eq_getElem?_getD, hi]
theorem bytes_below (T : TypeId) (w : World) (s : ByteArray) : Below w.heap.size w (Lib.bytesWorld w T s) :=
  ⟨rfl, rfl, rfl, by rw [Lib.bytesWorld_size]; omega, fun j hj => Lib.bytesWorld_at_old w T s j hj⟩
theorem strOfNums_str (l : List UInt8) : strOfNums (l.map fun b => ((b.toNat : Nat) : Int)) = str l := by
  unfold strOfNums str
  congr 1
  simp [Function.comp_def]
theorem BytesAt.conv {P : Program} {T src dst : TypeId} (hs : P.underlying src = some (.slice T)) (he : P.underlying T = some (.int .u8)) (hd : P.underlying dst = some .string) {w : World} {b : Nat} {l : List UInt8} (h : BytesAt T w b l) {n : Nat} (hn : n = l.length) (cap : Nat) :
    (convert src dst (.slice (some ⟨b, 0, none⟩) n cap)).run P w = .ok (.string (str l)) w := by
  have := run_convert_bytes_arg (P := P) w src T hs he b 0 n cap (l.map fun b => ((b.toNat : Nat) : Int)) (by simp [hn]) (fun i hi => by
    rw [Nat.zero_add, h.cell (by omega)]
    have hi' : i < l.length := by omega
    simp [List.getD_eq_getElem?_getD, hi']) dst hd
  rw [this, strOfNums_str]
end Go.Proofs.YtoekofanmgdbmaaGreatDoor
