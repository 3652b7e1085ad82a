/- A word's kind; what stands behind it. -/
import Derived.Test.YtgkjlpielikecaaGreatDoorTa
set_option linter.unusedVariables false
set_option linter.unusedSimpArgs false
namespace Go.Proofs.YtgkjlpielikecaaGreatDoor
open Go.RowKit

theorem verbs_fields : Lib.fields [115, 117, 98, 109, 105, 116, 32, 99, 97, 110, 99, 101, 108, 32, 114, 101, 108, 101, 97, 115, 101, 32, 112, 117, 116, 32, 103, 111, 110, 101, 32, 100, 101, 108, 105, 118, 101, 114, 32, 108, 111, 115, 101, 32, 99, 111, 112, 121, 32, 116, 105, 99, 107, 32, 99, 114, 97, 115, 104, 32, 115, 116, 97, 114, 116] = verbs := by decide +kernel
theorem kindOf_found (x : List UInt8) : foundAt verbs x + 1 = (kindOf x : Int) ∧ -1 ≤ foundAt verbs x ∧ foundAt verbs x ≤ 10 := by
  unfold foundAt kindOf
  cases h : verbs.findIdx? (· = x) with
  | none => exact ⟨rfl, by decide, by decide⟩
  | some i =>
    have : i < 11 := by have := (List.findIdx?_eq_some_iff_getElem.1 h).1; exact this
    refine ⟨by simp, ?_, ?_⟩ <;> (show _ ≤ _) <;> simp <;> omega
set_option maxHeartbeats 1000000 in
theorem pkind_any (l : List UInt8) (w : World) (ht : Tabs w) : Calls Tryz.prog 30 #[.string (str l)] w fun e w' => e = .returned (.int .i64 (kindOf l)) ∧ Below w.heap.size w w' := by
  have HT := Lib.hid ht
  clear ht
  obtain ⟨x, hx⟩ : ∃ x, str l = x := ⟨_, rfl⟩
  have HX := Lib.hid hx
  rw [hx]
  clear hx
  go_enter Tryz.func30, Tryz.ntmps30
  go_wp2_with fail
  refine (fields_const _ verbs verbs_fields (by decide +kernel) (by decide) _ HT.out).mono ?_
  rintro e w1 ⟨rfl, h1, hb1⟩
  have H1 := Lib.hid h1
  have HB1 := Lib.hid hb1
  clear h1 hb1
  go_wp2_with fail
  rw [← HX.out]
  refine (index_any _ _ _ l _ H1.out (by decide)).mono ?_
  rintro e w2 ⟨rfl, rfl⟩
  have hk := kindOf_found l
  have hw : IntKind.i64.wrap (foundAt verbs l + 1) = foundAt verbs l + 1 := IntWalk.i64_in _ (by omega)
  have HK := Lib.hid hk.1
  clear hk
  go_wp2
  go_ret
  exact ⟨by rw [← HK.out]; rfl, HB1.out⟩
/-- What stands behind a kind: one number, or more. -/
def shapeOf (k : Nat) : ByteArray := if k = 1 then ⟨#[97, 112]⟩ else if k = 4 then ⟨#[97, 110]⟩ else if k = 5 then ⟨#[97, 109]⟩ else if k = 10 then ⟨#[97, 98]⟩ else ⟨#[97]⟩
theorem shape_any (k : Nat) (w : World) : Calls Tryz.prog 24 #[.int .i64 k] w fun e w' => e = .returned (.string (shapeOf k)) ∧ w' = w := by
  by_cases h1 : k = 1
  · subst h1
    go_enter Tryz.func24, Tryz.ntmps24
    go_wp2
    go_ret
    exact ⟨rfl, rfl⟩
  · by_cases h4 : k = 4
    · subst h4
      go_enter Tryz.func24, Tryz.ntmps24
      go_wp2
      go_ret
      exact ⟨rfl, rfl⟩
    · by_cases h5 : k = 5
      · subst h5
        go_enter Tryz.func24, Tryz.ntmps24
        go_wp2
        go_ret
        exact ⟨rfl, rfl⟩
      · by_cases h10 : k = 10
        · subst h10
          go_enter Tryz.func24, Tryz.ntmps24
          go_wp2
          go_ret
          exact ⟨rfl, rfl⟩
        · have e : shapeOf k = ⟨#[97]⟩ := by simp [shapeOf, h1, h4, h5, h10]
          rw [e]
          have b1 : ((k : Int) == 1) = false := beq_eq_false_iff_ne.2 (by omega)
          have b4 : ((k : Int) == 4) = false := beq_eq_false_iff_ne.2 (by omega)
          have b5 : ((k : Int) == 5) = false := beq_eq_false_iff_ne.2 (by omega)
          have b10 : ((k : Int) == 10) = false := beq_eq_false_iff_ne.2 (by omega)
          clear h1 h4 h5 h10 e
          go_enter Tryz.func24, Tryz.ntmps24
          go_wp2
          go_ret
          exact ⟨rfl, rfl⟩
end Go.Proofs.YtgkjlpielikecaaGreatDoor
