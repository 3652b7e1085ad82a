/- Words on a block of a struct that methods write through a pointer; the signs that part. -/
import Derived.Test.YtikamehjeaoilaaGreatDoorNm
import Derived.Test.YtikamehjeaoilaaGreatDoorPt
set_option linter.unusedVariables false
set_option linter.unusedSimpArgs false
namespace Go.Proofs.YtikamehjeaoilaaGreatDoor
open Go.RowKit

/-- All but block g stands. -/
abbrev Gb (g : Nat) (w w' : World) : Prop := w.grownBy w' (some g)
theorem Gb.refl (g : Nat) (w : World) : Gb g w w := ⟨rfl, rfl, rfl, Nat.le_refl _, fun _ _ _ => rfl⟩
theorem Gb.trans {g : Nat} {a b c : World} (h : Gb g a b) (k : Gb g b c) : Gb g a c :=
  ⟨k.os.trans h.os, k.tape.trans h.tape, k.output.trans h.output, Nat.le_trans h.size k.size, fun i hi hn => (k.block i (Nat.lt_of_lt_of_le hi h.size) hn).trans (h.block i hi hn)⟩
theorem Gb.of_below {g : Nat} {w w' : World} (h : Below w.heap.size w w') : Gb g w w' := ⟨h.os, h.tape, h.output, h.size, fun k hk _ => h.block k hk⟩
theorem Gb.set (w : World) (g j : Nat) (v : Value) : Gb g w (w.setCell ⟨g, j, none⟩ v) := by
  exact ⟨rfl, rfl, rfl, by simp [World.setCell], fun k hk hg => Below.heap_setCell _ _ _ _ (fun e => hg (by first | rw [e] | (rw [e]; rfl)))⟩
theorem Gb.below {g : Nat} {a w w' : World} {B : Nat} (h : Below B a w) (k : Gb g w w') (hg : B ≤ g) (hB : B ≤ w.heap.size) : Below B a w' :=
  ⟨k.os.trans h.os, k.tape.trans h.tape, k.output.trans h.output, Nat.le_trans h.size k.size, fun i hi => (k.block i (Nat.lt_of_lt_of_le hi hB) (by simp; omega)).trans (h.block i hi)⟩
theorem Gb.block' {g b : Nat} {w w' : World} {o : Obj} (k : Gb g w w') (h : w.heap[b]? = some o) (hne : b ≠ g) : w'.heap[b]? = some o :=
  (k.block b (Array.getElem?_eq_some_iff.1 h).1 (by simpa using hne)).trans h
theorem set2 {w : World} {g : Nat} {T : TypeId} {a b : Value} (x y : Value) (h : w.heap[g]? = some (.cells #[a, b] T (0, 0))) : ((w.setCell ⟨g, 0, none⟩ x).setCell ⟨g, 1, none⟩ y).heap[g]? = some (.cells #[x, y] T (0, 0)) := by
  rw [heap_setCell_same _ g 1 #[x, b] T y (by rw [heap_setCell_same w g 0 #[a, b] T x h]; rfl)]
  rfl
theorem set2a {w : World} {g : Nat} {T : TypeId} {a b : Value} (x : Value) (h : w.heap[g]? = some (.cells #[a, b] T (0, 0))) : (w.setCell ⟨g, 0, none⟩ x).heap[g]? = some (.cells #[x, b] T (0, 0)) := by
  rw [heap_setCell_same w g 0 #[a, b] T x h]; rfl
theorem set2b {w : World} {g : Nat} {T : TypeId} {a b : Value} (y : Value) (h : w.heap[g]? = some (.cells #[a, b] T (0, 0))) : (w.setCell ⟨g, 1, none⟩ y).heap[g]? = some (.cells #[a, y] T (0, 0)) := by
  rw [heap_setCell_same w g 1 #[a, b] T y h]; rfl

def signsN : List Nat := [32, 58, 44, 43, 126, 33, 62, 64]
theorem part_byte (c : UInt8) : signsN.contains c.toNat = parting c := by
  unfold signsN parting
  simp only [List.contains_cons, List.contains_nil, Bool.or_false]
  have e : ∀ (k : Nat) (hk : k < 256), (c.toNat == k) = (c == UInt8.ofNat k) := fun k hk => by
    rw [Bool.eq_iff_iff]; simp only [beq_iff_eq]
    constructor
    · rintro h; rw [← h]; simp
    · rintro rfl; simp; omega
  simp only [e _ (show (32 : Nat) < 256 by decide), e _ (show (58 : Nat) < 256 by decide), e _ (show (44 : Nat) < 256 by decide), e _ (show (43 : Nat) < 256 by decide), e _ (show (126 : Nat) < 256 by decide), e _ (show (33 : Nat) < 256 by decide), e _ (show (62 : Nat) < 256 by decide), e _ (show (64 : Nat) < 256 by decide)]
  rfl
theorem part_high {c : Nat} (h : 128 ≤ c) : signsN.contains c = false := by
  unfold signsN
  simp only [List.contains_cons, List.contains_nil, Bool.or_false, Bool.or_eq_false_iff, beq_eq_false_iff_ne]
  omega
def signsS : ByteArray := ⟨#[32, 58, 44, 43, 126, 33, 62, 64]⟩
theorem signs_dec : ∀ p, p < 8 → Utf8.decode signsS p = (signsN.getD p 0, 1) := by decide +kernel
set_option maxRecDepth 1000000 in
theorem parting_any (c : Nat) (w : World) : Calls Tryz.prog 192 #[.int .i32 c] w fun e w' => e = .returned (.bool (signsN.contains c)) ∧ Below w.heap.size w w' := by
  go_enter Tryz.func192, Tryz.ntmps192
  go_wp2
  go_loopw [2] (fun _ w' => ∃ pos : Nat, w' = w.iter signsS pos ∧ pos ≤ 8 ∧ ∀ j, j < pos → signsN.getD j 0 ≠ c) (fun _ w' => 8 - w'.iterPos w.heap.size)
  case atStart => exact ⟨0, rfl, by omega, fun j h => absurd h (Nat.not_lt_zero _)⟩
  case round =>
    obtain ⟨pos, rfl, hp8, hno⟩ := hrel
    have HNO := Lib.hid hno
    clear hno
    by_cases hp : pos < 8
    · have hnx : ∀ ty, (Instr.next (.pointer (some ⟨w.heap.size, 0, none⟩)) true ty).run Tryz.prog (w.iter signsS pos) = .ok (.tuple #[.bool true, .int .i64 pos, .int .i32 (signsN.getD pos 0 : Nat)]) (w.iter signsS (pos + 1)) := fun ty => by
        rw [run_next_any w signsS pos ty hp, signs_dec pos hp]
      obtain ⟨d, hd⟩ : ∃ d, signsN.getD pos 0 = d := ⟨_, rfl⟩
      have HD := Lib.hid hd
      rw [hd] at hnx
      clear hd
      cases he : ((d : Int) == (c : Int)) with
      | true =>
        have HE := Lib.hid he
        go_wp2
        go_ret
        refine ⟨?_, below_alloc' (Below.refl _ _) _⟩
        have h1 : d = c := by have := beq_iff_eq.1 HE.out; omega
        have : signsN.contains c = true := by
          rw [List.contains_iff_mem, ← h1, ← HD.out, List.getD_eq_getElem?_getD, List.getElem?_eq_getElem (show pos < signsN.length from hp)]
          exact List.getElem_mem _
        exact (ret_bool this).symm
      | false =>
        have HE := Lib.hid he
        go_wp2
        go_roundw
        case rel =>
          refine ⟨pos + 1, rfl, by omega, fun j hj => ?_⟩
          by_cases h : j = pos
          · rw [h, HD.out]
            have := beq_eq_false_iff_ne.1 HE.out
            omega
          · exact HNO.out j (by omega)
        case measure => simp; omega
    · have hnx : ∀ ty, (Instr.next (.pointer (some ⟨w.heap.size, 0, none⟩)) true ty).run Tryz.prog (w.iter signsS pos) = _ := fun ty => run_next_end w signsS pos ty hp
      go_wp2
      go_ret
      refine ⟨?_, below_alloc' (Below.refl _ _) _⟩
      have : signsN.contains c = false := by
        cases hc : signsN.contains c with
        | false => rfl
        | true =>
          obtain ⟨i, hi, e⟩ := List.getElem_of_mem (List.contains_iff_mem.1 hc)
          have hi8 : i < 8 := hi
          exact absurd (by rw [List.getD_eq_getElem?_getD, List.getElem?_eq_getElem hi]; exact e) (HNO.out i (by omega))
      exact (ret_bool this).symm
theorem parting_is {c : Nat} {b : Bool} (h : signsN.contains c = b) (w : World) : Calls Tryz.prog 192 #[.int .i32 c] w fun e w' => e = .returned (.bool b) ∧ Below w.heap.size w w' := by
  rw [← h]; exact parting_any c w
end Go.Proofs.YtikamehjeaoilaaGreatDoor
