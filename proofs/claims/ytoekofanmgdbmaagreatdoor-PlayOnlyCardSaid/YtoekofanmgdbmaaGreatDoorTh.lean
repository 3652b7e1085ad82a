/- Plain words on scripts of ticks: lines, answers, numbers; no program is walked. -/
import Derived.Test.YtoekofanmgdbmaaGreatDoorTf
set_option linter.unusedVariables false
set_option linter.unusedSimpArgs false
namespace Go.Proofs.YtoekofanmgdbmaaGreatDoor
open Go.RowKit

def rowN (x : Int) : List UInt8 := if 0 < x % 3 then tickL else []
def textN (rs : List (List UInt8)) : List UInt8 := rs.flatMap (fun r => r ++ [10])
def ticks (rs : List (List UInt8)) : Nat := rs.countP (fun r => decide (r = tickL))
def dull (r : List UInt8) : Prop := r = [] ∨ r = tickL
theorem tick_no : (10 : UInt8) ∉ tickL := by decide
theorem dull_no {r : List UInt8} (h : dull r) : (10 : UInt8) ∉ r := by
  rcases h with rfl | rfl
  · simp
  · exact tick_no
theorem rowN_dull (x : Int) : dull (rowN x) := by
  unfold rowN
  split
  · exact .inr rfl
  · exact .inl rfl
theorem textN_row (z : List UInt8) : ∀ rs : List (List UInt8), (10 : UInt8) :: (textN rs ++ z) = rowT 10 (rs ++ [z])
  | [] => by simp [textN, rowT]
  | r :: rs => by
    have ih := textN_row z rs
    rw [List.cons_append, rowT_cons, ← ih]
    simp [textN]
theorem splitC_lines {rs : List (List UInt8)} {z : List UInt8} (h : ∀ r ∈ rs, dull r) (hz : dull z) : splitC 10 (textN rs ++ z) = rs ++ [z] := by
  have h1 := textN_row z rs
  have h2 : ∀ m ∈ rs ++ [z], (10 : UInt8) ∉ m := fun m hm => by
    rcases List.mem_append.1 hm with hm | hm
    · exact dull_no (h m hm)
    · rw [List.mem_singleton.1 hm]; exact dull_no hz
  match hl : rs ++ [z] with
  | [] => simp at hl
  | n :: ns =>
    rw [hl] at h1 h2
    rw [rowT_cons] at h1
    injection h1 with _ h1
    rw [h1]
    exact splitC_row n ns (h2 n (List.mem_cons_self ..)) fun m hm => h2 m (List.mem_cons_of_mem _ hm)
theorem textN_len : ∀ {rs : List (List UInt8)}, (∀ r ∈ rs, dull r) → (textN rs).length ≤ 7 * rs.length
  | [], _ => by simp [textN]
  | r :: rs, h => by
    have ih := textN_len (rs := rs) fun m hm => h m (List.mem_cons_of_mem _ hm)
    have hr : r.length ≤ 6 := by
      rcases h r (List.mem_cons_self ..) with rfl | rfl
      · simp
      · simp [tickL]
    simp only [textN, List.flatMap_cons, List.length_append, List.length_cons, List.length_nil] at ih ⊢
    omega
theorem ticks_le (rs : List (List UInt8)) : ticks rs ≤ rs.length := List.countP_le_length
theorem ans_ticks : ∀ {rs : List (List UInt8)}, (∀ r ∈ rs, dull r) → rs.flatMap ansL = List.replicate (ticks rs) ⟨#[111, 107]⟩
  | [], _ => rfl
  | r :: rs, h => by
    have ih := ans_ticks (rs := rs) fun m hm => h m (List.mem_cons_of_mem _ hm)
    rw [List.flatMap_cons, ih]
    rcases h r (List.mem_cons_self ..) with rfl | rfl
    · have : ticks ([] :: rs) = ticks rs := by simp [ticks, tickL]
      rw [this]; rfl
    · have : ticks (tickL :: rs) = ticks rs + 1 := by simp [ticks]
      rw [this, List.replicate_succ]; rfl
theorem ansAll_ticks {rs : List (List UInt8)} (h : ∀ r ∈ rs, dull r) : ansAll rs rs.length = List.replicate (ticks rs) ⟨#[111, 107]⟩ := by
  rw [ansAll, List.take_length, ans_ticks h]
theorem dull_plain {l : List UInt8} (h : dull l) : plainL l := by
  rcases h with h | h
  · exact .inl h
  · exact .inr (.inl h)

/-! ### A tick's number -/
def tickT (k : Nat) : List UInt8 := [116, 105, 99, 107, 32] ++ Lib.decDigits k
theorem tickT_split (k : Nat) : splitC 32 (tickT k) = [[116, 105, 99, 107], Lib.decDigits k] := by
  have h := splitC_row (c := 32) [116, 105, 99, 107] [Lib.decDigits k] (by decide) (fun m hm => by rw [List.mem_singleton.1 hm]; exact dec_not k (by decide))
  rw [← h]
  simp [tickT, rowT]
theorem tickT_one {k : Nat} (h : k < 1000000) : oneV (splitC 32 (tickT k)) = evV 9 k 0 0 (.slice none 0 0) (.string ⟨#[]⟩) (.int .i64 0) (.int .i64 0) (.slice none 0 0) (.slice none 0 0) (.bool false) ∧ oneC (splitC 32 (tickT k)) = 0 := by
  rw [tickT_split]
  have h1 : numP 999999 (Lib.decDigits k) = true := numP_dec (by omega) (by omega)
  have h2 : numV (Lib.decDigits k) = k := by rw [numV_of h1, val_dec]
  have h3 : kindOf [116, 105, 99, 107] = 9 := by decide +kernel
  have h4 : oneOk [[116, 105, 99, 107], Lib.decDigits k] = true := by
    unfold oneOk
    simp only [List.getD_cons_zero, List.getD_cons_succ, h3, h1]
    rfl
  unfold oneV oneC
  rw [h4]
  simp only [List.getD_cons_zero, List.getD_cons_succ, h3, h2]
  exact ⟨rfl, rfl⟩
theorem tickT_kind (k : Nat) : kindOf ((splitC 32 (tickT k)).getD 0 []) = 9 := by
  rw [tickT_split]
  show kindOf [116, 105, 99, 107] = 9
  decide +kernel
/-- Texts that are none. -/
def bads : List (List UInt8) := [[116, 105, 99, 107, 32, 49, 48, 48, 48, 48, 48, 48], [116, 105, 99, 107, 32, 48, 48], [116, 105, 99, 107, 32, 48, 53], [116, 105, 99, 107, 32, 43, 49], [116, 105, 99, 107, 32, 45, 49], [116, 105, 99, 107, 32], [116, 105, 99, 107], [116, 105, 99, 107, 32, 49, 32], [116, 105, 99, 107, 32, 57, 57, 57, 57, 57, 57, 57, 57, 57, 57, 57, 57, 57, 57, 57, 57, 57, 57, 57, 57], [116, 105, 99, 107, 32, 49, 101, 51]]
theorem bads_bad : ∀ b ∈ bads, kindOf ((splitC 32 b).getD 0 []) = 9 ∧ oneC (splitC 32 b) = 8 ∧ b.length ≤ 100 := by
  have h : bads.all (fun b => decide (kindOf ((splitC 32 b).getD 0 []) = 9) && decide (oneC (splitC 32 b) = 8) && decide (b.length ≤ 100)) = true := by decide +kernel
  intro b hb
  have := List.all_eq_true.1 h b hb
  simpa [and_assoc] using this
end Go.Proofs.YtoekofanmgdbmaaGreatDoor
