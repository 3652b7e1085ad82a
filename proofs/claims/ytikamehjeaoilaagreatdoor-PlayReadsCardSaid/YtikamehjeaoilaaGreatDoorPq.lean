/- Two numbers of a word, a set of a word, by play. -/
import Derived.Test.YtikamehjeaoilaaGreatDoorPo
set_option linter.unusedVariables false
set_option linter.unusedSimpArgs false
namespace Go.Proofs.YtikamehjeaoilaaGreatDoor
open Go.RowKit

theorem cut_any (s : List UInt8) (c : UInt8) (w : World) (ht : Tabs w) (hs : s.length ≤ 4294967280) : Calls Tryz.prog 108 #[.string (str s), .string ⟨#[c]⟩] w fun e w' =>
    e = .returned (.tuple #[.string (str (cutC c s).1), .string (str (cutC c s).2.1), .bool (cutC c s).2.2]) ∧ ∃ n, w' = w.drewN n := by
  obtain ⟨m, hm⟩ := ht.2.2
  refine (Tryz.strings_Cut (str s) ⟨#[c]⟩ m w (by rw [str_size]; omega) hm).mono ?_
  rintro e w' ⟨rfl, h⟩
  have h3 : (⟨#[c]⟩ : ByteArray).data.toList = [c] := rfl
  rw [str_data, h3, cut_C]
  exact ⟨rfl, h⟩
theorem cutC_len (c : UInt8) (l : List UInt8) : (cutC c l).1.length ≤ l.length ∧ (cutC c l).2.1.length ≤ l.length := by
  have h : (l.takeWhile (· ≠ c) ++ l.dropWhile (· ≠ c)).length = l.length := by rw [List.takeWhile_append_dropWhile]
  rw [List.length_append] at h
  unfold cutC
  split
  · exact ⟨by show (l.takeWhile _).length ≤ _; omega, by show (l.dropWhile _).tail.length ≤ _; rw [List.length_tail]; omega⟩
  · exact ⟨Nat.le_refl _, Nat.zero_le _⟩
def vecB (s : List UInt8) : Bool := (cutC 44 s).2.2 && (numP 1099511627776 (cutC 44 s).1 && numP 1099511627776 (cutC 44 s).2.1)
def PVecPost (s : List UInt8) (w : World) (e : Ending) (w' : World) : Prop :=
  e = .returned (.tuple #[.agg #[.int .i64 (numV (cutC 44 s).1), .int .i64 (numV (cutC 44 s).2.1)], .bool (vecB s)]) ∧ Below w.heap.size w w'
theorem drewN_below {B : Nat} {a w : World} (h : Below B a w) (n : Nat) : Below B a (w.drewN n) := ⟨h.os, h.tape, h.output, h.size, h.block⟩
set_option maxRecDepth 1000000 in
set_option maxHeartbeats 2000000 in
theorem pvec_any (s : List UInt8) (w : World) (ht : Tabs w) (hs : s.length ≤ 4294967280) : Calls Tryz.prog 110 #[.string (str s)] w (PVecPost s w) := by
  have HT := Lib.hid ht
  have hcl := cutC_len 44 s
  clear ht
  go_enter Tryz.func110, Tryz.ntmps110
  go_wp2_with fail
  refine (cut_any s 44 _ (HT.out.below (below_alloc' (Below.refl _ _) _)) hs).mono ?_
  rintro e w1 ⟨rfl, q, rfl⟩
  obtain ⟨c, hc⟩ : ∃ c, cutC 44 s = c := ⟨_, rfl⟩
  rw [hc] at hcl
  rw [hc]
  have HC := Lib.hid hc
  clear hc
  go_wp2_with fail
  refine (pnumber_any c.1 1099511627776 _ (by omega) (by omega)).mono ?_
  rintro e w2 ⟨rfl, hb2⟩
  have B2 := Lib.hid (block_below (w := (w.alloc (.cells #[.int .i64 0, .int .i64 0] 28)).drewN q) (alloc_at w _) hb2)
  have HB2 := Lib.hid (below_call (drewN_below (below_alloc' (Below.refl _ _) (.cells #[.int .i64 0, .int .i64 0] 28)) q) hb2)
  clear hb2
  obtain ⟨x, hx⟩ : ∃ x, numP 1099511627776 c.1 = x := ⟨_, rfl⟩
  obtain ⟨a, ha⟩ : ∃ a, numV c.1 = a := ⟨_, rfl⟩
  have HX := Lib.hid hx
  have HA := Lib.hid ha
  rw [hx, ha]
  clear hx ha
  go_wp2_with fail
  refine (pnumber_any c.2.1 1099511627776 _ (by omega) (by omega)).mono ?_
  rintro e w3 ⟨rfl, hb3⟩
  have B3 := Lib.hid (block_below B2.out hb3)
  have HB3 := Lib.hid (below_call HB2.out hb3)
  clear hb3
  obtain ⟨y, hy⟩ : ∃ x, numP 1099511627776 c.2.1 = x := ⟨_, rfl⟩
  obtain ⟨b, hb⟩ : ∃ a, numV c.2.1 = a := ⟨_, rfl⟩
  have HY := Lib.hid hy
  have HB := Lib.hid hb
  rw [hy, hb]
  clear hy hb
  have c0 := cell_of_block B3.out 0 _ rfl
  have c1 := cell_of_block B3.out 1 _ rfl
  have f3 := fun j => free_of_block B3.out j
  obtain ⟨z, hz⟩ : ∃ z, c.2.2 = z := ⟨_, rfl⟩
  have HZ := Lib.hid hz
  rw [hz]
  clear hz
  cases z <;> cases x
  all_goals
    go_wp2
    have fb := set2 (.int .i64 a) (.int .i64 b) B3.out
    have k0 := cell_of_block fb 0 _ rfl
    have k1 := cell_of_block fb 1 _ rfl
    refine bodyPost_ret (v := .tuple #[.agg #[.int .i64 a, .int .i64 b], .bool _]) (by simp [results, Tryz.results110, go_sem, k0, k1]; rfl) rfl ⟨?_, (HB3.out.setCell (p := ⟨w.heap.size, 0, none⟩) (Nat.le_refl _) _).setCell (p := ⟨w.heap.size, 1, none⟩) (Nat.le_refl _) _⟩
    unfold vecB
    rw [HC.out, HZ.out, HX.out, HY.out, HA.out, HB.out]
    rfl
end Go.Proofs.YtikamehjeaoilaaGreatDoor
