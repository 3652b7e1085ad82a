/- The taker: a line's words, taken one by one. -/
import Derived.Test.YtgkjlpielikecaaGreatDoorPo
set_option linter.unusedVariables false
set_option linter.unusedSimpArgs false
namespace Go.Proofs.YtgkjlpielikecaaGreatDoor
open Go.RowKit

/-- A taker at block t: of the words ls (in block g) the first j were taken. -/
def Tak (w : World) (t g : Nat) (ls : List (List UInt8)) (j : Nat) (no : Bool) : Prop :=
  (∃ c a, w.heap[t]? = some (.cells #[.slice (some a) (ls.length - j) c, .bool no] 71 (0, 0)) ∧ ls.length - j ≤ c ∧ (j < ls.length → a = ⟨g, j, none⟩)) ∧ Blk w g ls ∧ j ≤ ls.length
theorem Tak.ne {w : World} {t g j : Nat} {ls : List (List UInt8)} {no : Bool} (h : Tak w t g ls j no) : g ≠ t := fun e => by
  obtain ⟨⟨c, a, h1, _⟩, h2, _⟩ := h
  unfold Blk at h2
  rw [e, h1] at h2
  injection h2 with h2
  injection h2 with _ h2
  exact absurd h2 (by decide)
theorem Tak.below {w w' : World} {t g j : Nat} {ls : List (List UInt8)} {no : Bool} (h : Tak w t g ls j no) (hb : Below w.heap.size w w') : Tak w' t g ls j no := by
  obtain ⟨⟨c, a, h1, h2⟩, h3, h4⟩ := h
  exact ⟨⟨c, a, block_below h1 hb, h2⟩, h3.below hb, h4⟩
theorem Tak.set0 {w : World} {t g j k : Nat} {ls : List (List UInt8)} {no : Bool} (h : Tak w t g ls j no) (hk : k ≤ ls.length) {c m : Nat} {a : Addr} (hm : m = ls.length - k) (hc : m ≤ c) (ha : k < ls.length → a = ⟨g, k, none⟩) : Tak (w.setCell ⟨t, 0, none⟩ (.slice (some a) m c)) t g ls k no := by
  have hne := h.ne
  subst hm
  obtain ⟨⟨c0, a0, h1, _⟩, h2, _⟩ := h
  exact ⟨⟨c, a, heap_setCell_same w t 0 _ _ _ h1, hc, ha⟩, (Below.heap_setCell _ _ _ _ hne).trans h2, hk⟩
theorem Tak.set1 {w : World} {t g j : Nat} {ls : List (List UInt8)} {no : Bool} (h : Tak w t g ls j no) (b : Bool) : Tak (w.setCell ⟨t, 1, none⟩ (.bool b)) t g ls j b := by
  have hne := h.ne
  obtain ⟨⟨c0, a0, h1, hc⟩, h2, h3⟩ := h
  exact ⟨⟨c0, a0, heap_setCell_same w t 1 _ _ _ h1, hc⟩, (Below.heap_setCell _ _ _ _ hne).trans h2, h3⟩
theorem Tak.no {w : World} {t g j : Nat} {ls : List (List UInt8)} {no : Bool} (h : Tak w t g ls j no) : w.cell? ⟨t, 1, none⟩ = some (.bool no) ∧ w.frozen? ⟨t, 1, none⟩ = false := by
  obtain ⟨⟨c0, a0, h1, hc⟩, h2, h3⟩ := h
  exact ⟨cell_of_block h1 1 _ rfl, free_of_block h1 1⟩

set_option maxHeartbeats 1000000 in
set_option maxRecDepth 100000 in
theorem take_some (w : World) (t g j : Nat) (ls : List (List UInt8)) (no : Bool) (h : Tak w t g ls j no) (hj : j < ls.length) (hf : ls.length ≤ 4294967281) :
    Calls Tryz.prog 31 #[.pointer (some ⟨t, 0, none⟩)] w fun e w' => e = .returned (.string (str ls[j])) ∧ Tak w' t g ls (j + 1) no ∧ Gb t w w' := by
  have H := Lib.hid h
  obtain ⟨⟨c, a, h1, hc, ha⟩, h2, _⟩ := h
  obtain rfl := ha hj
  have e0 := cell_of_block h1 0 _ rfl
  have e1 := h2.cell hj
  have fr := free_of_block h1 0
  obtain ⟨m, hm⟩ : ∃ m, ls.length - j = m + 1 := ⟨ls.length - j - 1, by omega⟩
  rw [hm] at e0 hc
  have hm2 : ls.length - (j + 1) = m := by omega
  have hne : ¬ ((m + 1 : Nat) : Int) = 0 := by omega
  have hne2 : (((m + 1 : Nat) : Int) == 0) = false := beq_eq_false_iff_ne.2 hne
  have hm3 : m + 1 ≤ 4294967281 := by omega
  have hc1 : (1 : Int) ≤ ((m + 1 : Nat) : Int) := by omega
  have hc2 : ((m + 1 : Nat) : Int) ≤ (c : Int) := by omega
  clear h1 h2
  go_enter Tryz.func31, Tryz.ntmps31
  go_wp2
  all_goals
    go_ret
    refine ⟨rfl, H.out.set0 hj hm2.symm (by omega) fun hk => ?_, Gb.set _ _ _ _⟩
    first | rfl | (exfalso; omega)
set_option maxHeartbeats 1000000 in
set_option maxRecDepth 100000 in
theorem take_none (w : World) (t g : Nat) (ls : List (List UInt8)) (no : Bool) (h : Tak w t g ls ls.length no) :
    Calls Tryz.prog 31 #[.pointer (some ⟨t, 0, none⟩)] w fun e w' => e = .returned (.string (str [])) ∧ Tak w' t g ls ls.length true ∧ Gb t w w' := by
  have H := Lib.hid h
  obtain ⟨⟨c, a, h1, hc, ha⟩, h2, _⟩ := h
  have e0 := cell_of_block h1 0 _ rfl
  have e1 := cell_of_block h1 1 _ rfl
  have fr := free_of_block h1 1
  rw [Nat.sub_self] at e0
  clear h1 h2 ha hc
  go_enter Tryz.func31, Tryz.ntmps31
  go_wp2
  go_ret
  exact ⟨rfl, H.out.set1 true, Gb.set _ _ _ _⟩
/-- A number, or none, where a word is there. -/
theorem tnum_some (w : World) (t g j : Nat) (ls : List (List UInt8)) (no : Bool) (h : Tak w t g ls j no) (hj : j < ls.length) (hf : few ls) :
    Calls Tryz.prog 63 #[.pointer (some ⟨t, 0, none⟩)] w fun e w' => e = .returned (.int .i64 (numV ls[j])) ∧ Tak w' t g ls (j + 1) (no || !numP 999999 ls[j]) ∧ Gb t w w' := by
  have H := Lib.hid h
  clear h
  have hl : ls[j].length ≤ 4294967280 := by have := hf.2 ls[j] (List.getElem_mem hj); omega
  go_enter Tryz.func63, Tryz.ntmps63
  go_wp2_with fail
  refine (take_some w t g j ls no H.out hj (by have := hf.1; omega)).mono ?_
  rintro e w1 ⟨rfl, h1, g1⟩
  go_wp2_with fail
  refine (pnumber_any ls[j] 999999 w1 hl (by decide)).mono ?_
  rintro e w2 ⟨rfl, hb2⟩
  have h2 := h1.below hb2
  have G2 := Lib.hid (g1.trans (Gb.of_below hb2))
  obtain ⟨c1, f1⟩ := h2.no
  have H2 := Lib.hid h2
  clear h1 g1 hb2 h2
  cases no <;> cases hb : numP 999999 ls[j]
  all_goals
    go_wp2
    go_ret
    exact ⟨rfl, by rw [hb]; exact H2.out.set1 _, G2.out.trans (Gb.set _ _ _ _)⟩
end Go.Proofs.YtgkjlpielikecaaGreatDoor
