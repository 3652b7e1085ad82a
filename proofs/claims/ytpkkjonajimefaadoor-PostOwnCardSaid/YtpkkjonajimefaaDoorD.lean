/- The reference's digits of a number: the decimal numeral that the library's contract speaks of. -/
import Derived.Test.YtpkkjonajimefaaDoorV
import Derived.Lib.ItoaNum
import Derived.Lib.ItoaMem
import Derived.Lib.AppendIntMem
set_option linter.unusedVariables false
set_option linter.unusedSimpArgs false
namespace Go.Proofs.YtpkkjonajimefaaDoor
open Go.RowKit

theorem nDigits_le : ∀ (k u : Nat), u < 10 ^ (k + 1) → Lib.nDigits u ≤ k + 1
  | 0, u, h => by rw [Lib.nDigits_small (by simpa using h)]; omega
  | k + 1, u, h => by
    by_cases hs : u < 10
    · rw [Lib.nDigits_small hs]; omega
    · rw [Lib.nDigits_big hs]
      have := nDigits_le k (u / 10) (by rw [Nat.pow_succ] at h; omega)
      omega
theorem itoa_len (n : Int) (h0 : -9223372036854775808 ≤ n) (h1 : n ≤ 9223372036854775807) : (Lib.itoa n).length ≤ 20 := by
  unfold Lib.itoa
  split
  · have := nDigits_le 18 n.natAbs (by omega)
    rw [List.length_cons, Lib.decDigits_length]; omega
  · have := nDigits_le 18 n.toNat (by omega)
    rw [Lib.decDigits_length]; omega

def str (l : List UInt8) : ByteArray := ⟨l.toArray⟩
theorem str_size (l : List UInt8) : (str l).size = l.length := by simp [str, ByteArray.size]
theorem dec_size (n : Nat) (h : n ≤ 9223372036854775807) : (str (Lib.decDigits n)).size ≤ 19 := by
  rw [str_size, Lib.decDigits_length]
  exact nDigits_le 18 n (by omega)
theorem str_append (a b : List UInt8) : str a ++ str b = str (a ++ b) := by
  apply ByteArray.ext
  simp [str, ByteArray.data_append]

set_option maxRecDepth 100000 in
theorem digits_nat : ∀ (n : Nat), n ≤ 9223372036854775807 → ∀ (w : World), Calls Tryd.prog 32 #[.int .i64 n] w fun e w' => e = .returned (.string (str (Lib.decDigits n))) ∧ Below w.heap.size w w' := by
  intro n
  induction n using Nat.strongRecOn with
  | ind n ih =>
    intro hn w
    by_cases h : n < 10
    · have hi : ¬ (10 : Int) ≤ (n : Int) := by omega
      have h0 : ¬ (n : Int) < 0 := by omega
      clear ih
      have k48 : IntKind.i64.wrap (48 + (n : Int)) = 48 + n := kwid (by omega) (by omega)
      have k8 : IntKind.u8.wrap (48 + (n : Int)) = 48 + n := IntWalk.u8_in _ (by omega)
      obtain ⟨bt, hbt, eb⟩ : ∃ bt : UInt8, bt = UInt8.ofNat (48 + n) ∧ (bt.toNat : Int) = 48 + n := ⟨_, rfl, by
        rw [show (UInt8.ofNat (48 + n)).toNat = (48 + n) % 256 from UInt8.toNat_ofNat', Nat.mod_eq_of_lt (by omega)]; omega⟩
      have kc : (convert 77 9 (.slice (some ⟨w.heap.size, 0, none⟩) 1 1)).run Tryd.prog (w.alloc (.cells #[.int .u8 (48 + (n : Int))] 5)) = .ok (.string (str [bt])) (w.alloc (.cells #[.int .u8 (48 + (n : Int))] 5)) :=
        run_convert_bytes_back _ 77 9 5 ⟨w.heap.size, 0, none⟩ 1 [bt] (by kernel_rfl) (by kernel_rfl) (by kernel_rfl) (fun j hj => by
          obtain rfl : j = 0 := by simpa using hj
          exact cell_of_block (alloc_at _ _) 0 _ (by simp [eb]))
      have HBT := Lib.hid hbt
      clear hbt eb
      go_enter Tryd.func32, Tryd.ntmps32
      go_wp2
      go_ret
      exact ⟨ret_str (by rw [Lib.decDigits_one h, HBT.out]), below_alloc' (Below.refl _ _) _⟩
    · have hi : (10 : Int) ≤ (n : Int) := by omega
      have h0 : ¬ (n : Int) < 0 := by omega
      have i1 := ih (n / 10) (by omega) (by omega)
      have i2 := ih (n % 10) (by omega) (by omega)
      rw [show ((n / 10 : Nat) : Int) = (n : Int) / 10 by omega] at i1
      rw [show ((n % 10 : Nat) : Int) = (n : Int) % 10 by omega] at i2
      obtain ⟨s1, hs1, z1⟩ : ∃ s1, s1 = str (Lib.decDigits (n / 10)) ∧ s1.size ≤ 19 := ⟨_, rfl, dec_size _ (by omega)⟩
      obtain ⟨s2, hs2, z2⟩ : ∃ s2, s2 = str (Lib.decDigits (n % 10)) ∧ s2.size ≤ 19 := ⟨_, rfl, dec_size _ (by omega)⟩
      rw [← hs1] at i1
      rw [← hs2] at i2
      have S1 := Lib.hid hs1
      have S2 := Lib.hid hs2
      clear hs1 hs2
      have I1 := Lib.hid i1
      have I2 := Lib.hid i2
      clear ih i1 i2
      have hone := Lib.hid (Lib.decDigits_one (show n % 10 < 10 by omega))
      go_enter Tryd.func32, Tryd.ntmps32
      go_wp2_with (first | (go_at_call 32; refine (I1.out _).mono ?_; rintro r w1 ⟨rfl, hb⟩; have HB1 := Lib.hid hb; clear hb I1) | (go_at_call 32; refine (I2.out _).mono ?_; rintro r w2 ⟨rfl, hb⟩; have HB2 := Lib.hid hb; clear hb I2))
      go_ret
      refine ⟨ret_str ?_, below_call HB1.out HB2.out⟩
      rw [S1.out, S2.out, str_append, hone.out, Lib.decDigits.eq_1 n, dif_neg h]

set_option maxRecDepth 100000 in
theorem digits_any (n : Int) (h0 : -9223372036854775807 ≤ n) (h1 : n ≤ 9223372036854775807) (w : World) : Calls Tryd.prog 32 #[.int .i64 n] w fun e w' => e = .returned (.string (str (Lib.itoa n))) ∧ Below w.heap.size w w' := by
  by_cases h : n < 0
  · obtain ⟨m, rfl⟩ : ∃ m : Nat, n = -(m : Int) := ⟨n.natAbs, by omega⟩
    have kw : IntKind.i64.wrap (0 - -(m : Int)) = m := (kwid (by omega) (by omega)).trans (by omega)
    have hm : 1 ≤ m := by omega
    have hm0 : 0 < m := hm
    have hm1 : (0 : Int) < m := by omega
    obtain ⟨s1, hs1, z1⟩ : ∃ s1, s1 = str (Lib.decDigits m) ∧ s1.size ≤ 19 := ⟨_, rfl, dec_size _ (by omega)⟩
    have S1 := Lib.hid hs1
    clear hs1
    have z0 : (1 : Nat) + s1.size ≤ 9223372036854775807 := by omega
    go_enter Tryd.func32, Tryd.ntmps32
    go_wp2_with (go_at_call 32; refine (digits_nat m (by omega) _).mono ?_; rw [← S1.out]; rintro r w1 ⟨rfl, hb⟩; have HB1 := Lib.hid hb; clear hb)
    go_ret
    refine ⟨ret_str ?_, HB1.out⟩
    rw [Lib.itoa_neg _ hm, S1.out]
    exact str_append [45] _
  · obtain ⟨m, rfl⟩ : ∃ m : Nat, n = (m : Int) := ⟨n.natAbs, by omega⟩
    rw [Lib.itoa_nonneg]
    exact digits_nat m (by omega) w
end Go.Proofs.YtpkkjonajimefaaDoor
