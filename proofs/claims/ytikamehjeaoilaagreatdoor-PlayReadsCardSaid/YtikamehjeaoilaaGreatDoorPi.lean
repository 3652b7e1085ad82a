/- Where one of two signs stands in a text. -/
import Derived.Test.YtikamehjeaoilaaGreatDoorPs
import Derived.WalkMore
set_option linter.unusedVariables false
set_option linter.unusedSimpArgs false
namespace Go.Proofs.YtikamehjeaoilaaGreatDoor
open Go.RowKit

def twoS : ByteArray := ⟨#[43, 126]⟩
theorem two_dec : ∀ p, p < 2 → Utf8.decode twoS p = ([43, 126].getD p 0, 1) := by decide +kernel
theorem two_bound : ∀ p, p < 2 → ([43, 126].getD p 0) < 128 := by decide +kernel
set_option maxRecDepth 1000000 in
set_option maxHeartbeats 1000000 in
theorem idxrune_err (w : World) : Calls Tryz.prog 144 #[.string twoS, .int .i32 65533] w fun e w' => e = .returned (.int .i64 (-1)) ∧ Below w.heap.size w w' := by
  go_enter Tryz.func144, Tryz.ntmps144
  go_wp2
  go_loopw [5] (fun _ w' => ∃ pos : Nat, w' = w.iter twoS pos ∧ pos ≤ 2) (fun _ w' => 2 - w'.iterPos w.heap.size)
  case atStart => exact ⟨0, rfl, by omega⟩
  case round =>
    obtain ⟨pos, rfl, hp2⟩ := hrel
    by_cases hp : pos < 2
    · have hnx : ∀ ty, (Instr.next (.pointer (some ⟨w.heap.size, 0, none⟩)) true ty).run Tryz.prog (w.iter twoS pos) = .ok (.tuple #[.bool true, .int .i64 pos, .int .i32 ([43, 126].getD pos 0 : Nat)]) (w.iter twoS (pos + 1)) := fun ty => by
        rw [run_next_any w twoS pos ty hp, two_dec pos hp]
      have hb := two_bound pos hp
      obtain ⟨d, hd⟩ : ∃ d : Nat, [43, 126].getD pos 0 = d := ⟨_, rfl⟩
      rw [hd] at hnx hb
      have hne : ((d : Int) == 65533) = false := beq_eq_false_iff_ne.2 (by omega)
      clear hd
      go_wp2
      go_roundw
      case rel => exact ⟨pos + 1, rfl, by omega⟩
      case measure => simp; omega
    · have hnx : ∀ ty, (Instr.next (.pointer (some ⟨w.heap.size, 0, none⟩)) true ty).run Tryz.prog (w.iter twoS pos) = _ := fun ty => run_next_end w twoS pos ty hp
      go_wp2
      go_ret
      exact ⟨rfl, below_alloc' (Below.refl _ _) _⟩
set_option maxRecDepth 1000000 in
set_option maxHeartbeats 1000000 in
theorem idxrune_bad (c : Int) (h0 : 128 ≤ c) (hv : Lib.validRune c = false) (hne : c ≠ 65533) (w : World) : Calls Tryz.prog 144 #[.string twoS, .int .i32 c] w fun e w' => e = .returned (.int .i64 (-1)) ∧ w = w' := by
  have h1 : ¬ c < 128 := by omega
  have h2 : (0 : Int) ≤ c := by omega
  have h3 : (c == 65533) = false := beq_eq_false_iff_ne.2 hne
  have HV := Lib.hid hv
  clear hv hne
  go_enter Tryz.func144, Tryz.ntmps144
  go_wp2_with fail
  refine (Tryz.utf8_ValidRune c _).mono ?_
  rintro e w' ⟨rfl, rfl⟩
  rw [HV.out]
  go_wp2
  go_ret
  exact ⟨rfl, rfl⟩
theorem enc_cases (c : Int) (h0 : 128 ≤ c) (hv : Lib.validRune c = true) : (∃ a b : UInt8, Utf8.encode c = ⟨#[a, b]⟩ ∧ 128 ≤ b.toNat) ∨ (∃ a b d : UInt8, Utf8.encode c = ⟨#[a, b, d]⟩) ∨ (∃ a b d e : UInt8, Utf8.encode c = ⟨#[a, b, d, e]⟩) := by
  have hvv : Utf8.valid c = true := by
    unfold Lib.validRune at hv
    unfold Utf8.valid
    simp only [Bool.or_eq_true, Bool.and_eq_true, decide_eq_true_eq] at hv ⊢
    omega
  unfold Utf8.encode
  simp only [hvv, if_true]
  rw [if_neg (by omega)]
  by_cases h1 : c.toNat < 2048
  · left
    rw [if_pos h1]
    refine ⟨_, _, rfl, ?_⟩
    simp
    omega
  · rw [if_neg h1]
    by_cases h2 : c.toNat < 65536
    · right; left
      rw [if_pos h2]
      exact ⟨_, _, _, rfl⟩
    · right; right
      rw [if_neg h2]
      exact ⟨_, _, _, _, rfl⟩
theorem idxbyte_empty (s : ByteArray) (h : s.data.toList = []) (c : Int) (w : World) : Calls Tryz.prog 185 #[.string s, .int .u8 c] w fun e w' => e = .returned (.int .i64 (-1)) ∧ w' = w := by
  refine (Tryz.strings_IndexByte s c w).mono ?_
  rintro e w' ⟨rfl, rfl⟩
  rw [h]
  exact ⟨rfl, rfl⟩
set_option maxRecDepth 1000000 in
set_option maxHeartbeats 1000000 in
theorem idxrune_good (c : Int) (h0 : 128 ≤ c) (hv : Lib.validRune c = true) (hne : c ≠ 65533) (w : World) : Calls Tryz.prog 144 #[.string twoS, .int .i32 c] w fun e w' => e = .returned (.int .i64 (-1)) ∧ Below w.heap.size w w' := by
  have h1 : ¬ c < 128 := by omega
  have h2 : (0 : Int) ≤ c := by omega
  have h3 : (c == 65533) = false := beq_eq_false_iff_ne.2 hne
  have hcases := enc_cases c h0 hv
  have HV := Lib.hid hv
  clear hv hne
  rcases hcases with ⟨a, b, he, hb⟩ | ⟨a, b, d, he⟩ | ⟨a, b, d, g, he⟩
  · have hb' : ((126 : Int) != (b.toNat : Int)) = true := by rw [bne_iff_ne]; omega
    have hb2 : ((126 : Int) == (b.toNat : Int)) = false := beq_eq_false_iff_ne.2 (by omega)
    have hb3 : ¬ (126 : Int) = b.toNat := by omega
    have hb4 : ¬ 126 = b.toNat := by omega
    have hT : ∀ h, (twoS[1]'h) = 126 := fun _ => rfl
    have hA : ∀ h, ((⟨#[a, b]⟩ : ByteArray)[1]'h) = b := fun _ => rfl
    have h126 : (126 : UInt8).toNat = 126 := rfl
    go_enter Tryz.func144, Tryz.ntmps144
    go_wp2_with fail
    refine (Tryz.utf8_ValidRune c _).mono ?_
    rintro e w' ⟨rfl, rfl⟩
    rw [HV.out]
    go_wp2
    go_step3
    go_wp2
    refine wp_loop_rounds 1 ?_
    rw [rounds_succ]
    go_wp2
    go_step3
    go_upto_region 6 with fail
    go_quiet (fail)
    go_wp2
    go_upto_region 7 with fail
    have hs2 : twoS.size = 2 := rfl
    have hx2 : twoS.extract 2 2 = ⟨#[]⟩ := by decide +kernel
    go_quiet ((refine (idxbyte_empty ByteArray.empty rfl _ _).mono ?_; rintro e w'' ⟨he1, he2⟩; exact ⟨he1, _, he2⟩))
    go_wp2
    dsimp only [Exit.inBlock, Exit.then, Exit.noGoto]
    go_ret
    exact ⟨rfl, (Below.refl _ _).trans ⟨rfl, rfl, rfl, Nat.le_refl _, fun _ _ => rfl⟩⟩
  all_goals
    go_enter Tryz.func144, Tryz.ntmps144
    go_wp2_with fail
    refine (Tryz.utf8_ValidRune c _).mono ?_
    rintro e w' ⟨rfl, rfl⟩
    rw [HV.out]
    go_wp2
    go_step3
    go_wp2
    refine wp_loop_rounds 1 ?_
    rw [rounds_succ]
    go_wp2
    rw [Exit.noGoto_ret]
    go_ret
    exact ⟨rfl, Below.refl _ _⟩
end Go.Proofs.YtikamehjeaoilaaGreatDoor
