/- Names and sets of marks, by the program and by the reference. -/
import Derived.Test.YtikamehjeaoilaaGreatDoorProg
import Derived.Test.YtikamehjeaoilaaGreatDoorW
import Derived.Test.YtikamehjeaoilaaGreatDoorPu
import Derived.Deep.DeepCutAuto
set_option linter.unusedVariables false
set_option linter.unusedSimpArgs false
namespace Go.Proofs.YtikamehjeaoilaaGreatDoor
open Go.RowKit

def letterB (c : Int) : Bool := (decide (97 ≤ c) && decide (c ≤ 122)) || (decide (945 ≤ c) && decide (c ≤ 969))
def digitB (c : Int) : Bool := decide (48 ≤ c) && decide (c ≤ 57)
theorem letter_any (c : Int) (w : World) : Calls Tryz.prog 70 #[.int .i32 c] w fun e w' => e = .returned (.bool (letterB c)) ∧ w = w' := by
  unfold letterB
  by_cases h1 : 97 ≤ c <;> by_cases h2 : c ≤ 122 <;> by_cases h3 : 945 ≤ c <;> by_cases h4 : c ≤ 969
  all_goals first
    | (exfalso; omega)
    | (go_enter Tryz.func70, Tryz.ntmps70
       go_wp2
       go_ret
       exact ⟨by simp [h1, h2, h3, h4], rfl⟩)
theorem digit_any (c : Int) (w : World) : Calls Tryz.prog 71 #[.int .i32 c] w fun e w' => e = .returned (.bool (digitB c)) ∧ w = w' := by
  unfold digitB
  by_cases h1 : 48 ≤ c <;> by_cases h2 : c ≤ 57
  all_goals first
    | (exfalso; omega)
    | (go_enter Tryz.func71, Tryz.ntmps71
       go_wp2
       go_ret
       exact ⟨by simp [h1, h2], rfl⟩)
theorem runeOk_is (pos c : Nat) : runeOk pos c = (letterB c || (digitB c && decide (pos ≠ 0))) := by
  unfold runeOk letterB digitB
  have e : ∀ a b : Nat, decide ((a : Int) ≤ (b : Int)) = decide (a ≤ b) := fun a b => by simp
  rw [show (97 : Int) = ((97 : Nat) : Int) from rfl, show (122 : Int) = ((122 : Nat) : Int) from rfl, show (945 : Int) = ((945 : Nat) : Int) from rfl, show (969 : Int) = ((969 : Nat) : Int) from rfl, show (48 : Int) = ((48 : Nat) : Int) from rfl, show (57 : Int) = ((57 : Nat) : Int) from rfl]
  simp only [e]

set_option maxRecDepth 1000000 in
theorem runes_any (s : ByteArray) (hs : s.size ≤ maxLen) (w : World) : Calls Tryz.prog 72 #[.string s] w fun e w' => e = .returned (.int .i64 (runesGo s s.size 0)) ∧ Below w.heap.size w w' := by
  unfold maxLen at hs
  go_enter Tryz.func72, Tryz.ntmps72
  go_wp2
  go_loopw [3] (fun n w' => ∃ (pos b m : Nat), w' = w.iter s pos ∧ n = .int .i64 m ∧ m + runesGo s b pos = runesGo s s.size 0 ∧ s.size ≤ pos + b) (fun _ w' => s.size - w'.iterPos w.heap.size)
  case atStart => exact ⟨0, s.size, 0, rfl, rfl, by simp, by omega⟩
  case round =>
    obtain ⟨pos, b, m, rfl, rfl, hc, hb⟩ := hrel
    have hle := runesGo_le s s.size 0
    by_cases hp : pos < s.size
    · have hnx : ∀ ty, (Instr.next (.pointer (some ⟨w.heap.size, 0, none⟩)) true ty).run Tryz.prog (w.iter s pos) = _ := fun ty => run_next_any w s pos ty hp
      obtain ⟨b, rfl⟩ : ∃ k, b = k + 1 := ⟨b - 1, by omega⟩
      rw [runesGo_step s b pos hp] at hc
      have hm1 : m + 1 ≤ s.size := by omega
      have HC := Lib.hid hc
      clear hc
      go_wp2
      have hwd := width_pos s pos hp
      go_roundw
      case rel => exact ⟨pos + (Utf8.decode s pos).2, b, m + 1, rfl, by go_num, by have := HC.out; omega, by omega⟩
      case measure =>
        simp
        omega
    · have hnx : ∀ ty, (Instr.next (.pointer (some ⟨w.heap.size, 0, none⟩)) true ty).run Tryz.prog (w.iter s pos) = _ := fun ty => run_next_end w s pos ty hp
      go_wp2
      go_ret
      rw [runesGo_end s b pos hp] at hc
      exact ⟨ret_int (by omega), below_alloc' (Below.refl _ _) _⟩

theorem letter_is {c : Int} {b : Bool} (h : letterB c = b) (w : World) : Calls Tryz.prog 70 #[.int .i32 c] w fun e w' => e = .returned (.bool b) ∧ w = w' := by
  rw [← h]; exact letter_any c w
theorem digit_is {c : Int} {b : Bool} (h : digitB c = b) (w : World) : Calls Tryz.prog 71 #[.int .i32 c] w fun e w' => e = .returned (.bool b) ∧ w = w' := by
  rw [← h]; exact digit_any c w
theorem str_nil {s : ByteArray} (h : s.size = 0) : s.toList = [] := by
  have e : s = ByteArray.empty := ByteArray.size_eq_zero_iff.1 h
  subst e
  rw [ByteArray.toList_eq]
  rfl
theorem str_some {s : ByteArray} (h : ¬ s.size = 0) : (!s.toList.isEmpty) = true := by
  rw [ByteArray.toList_eq]
  cases hd : s.data.toList with
  | nil =>
    have : s.data.size = s.data.toList.length := by simp
    rw [hd] at this
    exact absurd this h
  | cons => rfl
set_option maxRecDepth 1000000 in
theorem name_any (s : ByteArray) (hs : s.size ≤ maxLen) (w : World) : Calls Tryz.prog 45 #[.string s] w fun e w' => e = .returned (.bool (nameS s)) ∧ Below w.heap.size w w' := by
  have HS := Lib.hid hs
  unfold maxLen at hs
  go_enter Tryz.func45, Tryz.ntmps45
  go_wp2
  go_loopw [3] (fun _ w' => ∃ (pos b : Nat), w' = w.iter s pos ∧ nameGo s b pos = nameGo s s.size 0 ∧ s.size ≤ pos + b) (fun _ w' => s.size - w'.iterPos w.heap.size)
  case atStart => exact ⟨0, s.size, rfl, rfl, by omega⟩
  case round =>
    obtain ⟨pos, b, rfl, hc, hb⟩ := hrel
    have HC := Lib.hid hc
    clear hc
    by_cases hp : pos < s.size
    · have hnx : ∀ ty, (Instr.next (.pointer (some ⟨w.heap.size, 0, none⟩)) true ty).run Tryz.prog (w.iter s pos) = _ := fun ty => run_next_any w s pos ty hp
      have hwd := width_pos s pos hp
      obtain ⟨b, rfl⟩ : ∃ m, b = m + 1 := ⟨b - 1, by omega⟩
      have hst := nameGo_step s b pos hp
      rw [runeOk_is] at hst
      have HST := Lib.hid hst
      clear hst
      generalize hcc : (Utf8.decode s pos).1 = c at *
      generalize hww : (Utf8.decode s pos).2 = wd at *
      have HCC := Lib.hid hcc
      have HWW := Lib.hid hww
      clear hcc hww
      cases hl : letterB c with
      | true =>
        have HL := Lib.hid hl
        clear hl
        go_wp2_with (go_at_call 70; refine (letter_is HL.out _).mono ?_; rintro e w' ⟨rfl, rfl⟩)
        go_roundw
        case rel => exact ⟨pos + wd, b, rfl, by rw [← HC.out, HST.out, HL.out]; simp, by omega⟩
        case measure => simp; omega
      | false =>
        have HL := Lib.hid hl
        clear hl
        cases hd : digitB c with
        | false =>
          have HD := Lib.hid hd
          clear hd
          go_wp2_with (first | (go_at_call 70; refine (letter_is HL.out _).mono ?_; rintro e w' ⟨rfl, rfl⟩) | (go_at_call 71; refine (digit_is HD.out _).mono ?_; rintro e w' ⟨rfl, rfl⟩))
          go_ret
          refine ⟨?_, below_alloc' (Below.refl _ _) _⟩
          have : nameS s = false := by unfold nameS; rw [← HC.out, HST.out, HL.out, HD.out]; simp
          exact (ret_bool this).symm
        | true =>
          have HD := Lib.hid hd
          clear hd
          by_cases h0 : pos = 0
          · have h0' : ((pos : Int) == 0) = true := by rw [h0]; rfl
            have H0 := Lib.hid h0
            clear h0
            go_wp2_with (first | (go_at_call 70; refine (letter_is HL.out _).mono ?_; rintro e w' ⟨rfl, rfl⟩) | (go_at_call 71; refine (digit_is HD.out _).mono ?_; rintro e w' ⟨rfl, rfl⟩))
            go_ret
            refine ⟨?_, below_alloc' (Below.refl _ _) _⟩
            have : nameS s = false := by unfold nameS; rw [← HC.out, HST.out, HL.out, HD.out, H0.out]; simp
            exact (ret_bool this).symm
          · have h0' : ((pos : Int) == 0) = false := beq_eq_false_iff_ne.2 (by omega)
            go_wp2_with (first | (go_at_call 70; refine (letter_is HL.out _).mono ?_; rintro e w' ⟨rfl, rfl⟩) | (go_at_call 71; refine (digit_is HD.out _).mono ?_; rintro e w' ⟨rfl, rfl⟩))
            go_roundw
            case rel => exact ⟨pos + wd, b, rfl, by rw [← HC.out, HST.out, HL.out, HD.out]; simp [h0], by omega⟩
            case measure => simp; omega
    · have hnx : ∀ ty, (Instr.next (.pointer (some ⟨w.heap.size, 0, none⟩)) true ty).run Tryz.prog (w.iter s pos) = _ := fun ty => run_next_end w s pos ty hp
      have hn1 : nameGo s s.size 0 = true := by rw [← HC.out, nameGo_end s b pos hp]
      have HN := Lib.hid hn1
      clear hn1
      by_cases hz : s.size = 0
      · have hz' := str_nil hz
        have HZ := Lib.hid hz
        clear hz
        go_wp2_with (go_at_call 72; refine (runes_any s HS.out _).mono ?_; rintro e w' ⟨rfl, hb⟩)
        go_ret
        refine ⟨?_, below_alloc' (Below.refl _ _) _⟩
        have : nameS s = false := by unfold nameS; rw [HZ.out]; simp
        exact (ret_bool this).symm
      · have hz' := str_some hz
        have hz'' : ¬ s.toList = [] := by simpa using hz'
        have HZ := Lib.hid hz
        clear hz
        go_wp2_with (go_at_call 72; refine (runes_any s HS.out _).mono ?_; rintro e w' ⟨rfl, hb⟩)
        go_ret
        refine ⟨?_, below_call (below_alloc' (Below.refl _ _) _) hb⟩
        have : nameS s = decide (runesGo s s.size 0 ≤ 8) := by unfold nameS; rw [HN.out]; simp [HZ.out]
        exact ret_bool (by rw [this]; simp; omega)

/-! ### Sets -/
theorem name_is {s : ByteArray} {b : Bool} (hs : s.size ≤ maxLen) (h : nameS s = b) (w : World) : Calls Tryz.prog 45 #[.string s] w fun e w' => e = .returned (.bool b) ∧ Below w.heap.size w w' := by
  rw [← h]; exact name_any s hs w
/-- A slice of texts, whoever owns it. -/
def Texts (w : World) (v : Value) (l : List ByteArray) : Prop :=
  ∃ a c, v = .slice a l.length c ∧ l.length ≤ 17592186044416 ∧ (∀ x ∈ l, x.size ≤ maxLen) ∧ ∀ i, i < l.length → ∃ b off, a = some ⟨b, off, none⟩ ∧ w.cell? ⟨b, off + i, none⟩ = some (.string (l.getD i ByteArray.empty))
theorem Texts.below {w w' : World} {v : Value} {l : List ByteArray} (h : Texts w v l) (hb : Below w.heap.size w w') : Texts w' v l := by
  obtain ⟨a, c, rfl, h1, h2, h3⟩ := h
  exact ⟨a, c, rfl, h1, h2, fun i hi => by obtain ⟨b, off, e, g⟩ := h3 i hi; exact ⟨b, off, e, cell_below g hb⟩⟩
/-- The first k of a row are names, and rise. -/
def setGo (l : List ByteArray) : Nat → Bool
  | 0 => true
  | k + 1 => setGo l k && (nameS (l.getD k ByteArray.empty) && !(decide (0 < k) && !Op.bytesLess (l.getD (k - 1) ByteArray.empty).toList (l.getD k ByteArray.empty).toList))
def setS (l : List ByteArray) : Bool := setGo l l.length && decide (l.length ≤ 4)
theorem setGo_false {l : List ByteArray} {k : Nat} (h : setGo l (k + 1) = false) : ∀ n, k + 1 ≤ n → setGo l n = false
  | 0, hn => by omega
  | n + 1, hn => by
    rcases Nat.lt_or_ge k n with h1 | h1
    · have := setGo_false h n h1
      rw [setGo, this]; rfl
    · obtain rfl : k = n := by omega
      exact h
theorem setS_false {l : List ByteArray} {k : Nat} (hk : k < l.length) (h : setGo l (k + 1) = false) : setS l = false := by
  unfold setS; rw [setGo_false h _ hk]; rfl
set_option maxRecDepth 1000000 in
set_option maxHeartbeats 1000000 in
theorem set_any (v : Value) (l : List ByteArray) (w : World) (hl : Texts w v l) : Calls Tryz.prog 149 #[v] w fun e w' => e = .returned (.bool (setS l)) ∧ Below w.heap.size w w' := by
  obtain ⟨pa, pc, rfl, hlen, hmx, hcs⟩ := hl
  have HMX := Lib.hid hmx
  have HCS := Lib.hid hcs
  clear hmx hcs
  go_enter Tryz.func149, Tryz.ntmps149
  go_wp2
  go_loopw [7] (fun i wr => ∃ k : Nat, i = .int .i64 k ∧ k ≤ l.length ∧ setGo l k = true ∧ Below w.heap.size w wr) (fun i _ => l.length - (intOf i).toNat)
  case atStart => exact ⟨0, rfl, Nat.zero_le _, rfl, Below.refl _ _⟩
  case round =>
    obtain ⟨k, rfl, hk, hg, hb⟩ := hrel
    have HG := Lib.hid hg
    have HB := Lib.hid hb
    clear hg hb
    by_cases hlt : k < l.length
    · obtain ⟨bb, off, rfl, hc⟩ := HCS.out k hlt
      have hcx := cell_below hc HB.out
      have hmax := HMX.out (l.getD k ByteArray.empty) (by rw [List.getD_eq_getElem?_getD, List.getElem?_eq_getElem hlt]; exact List.getElem_mem hlt)
      have hst : setGo l (k + 1) = (setGo l k && (nameS (l.getD k ByteArray.empty) && !(decide (0 < k) && !Op.bytesLess (l.getD (k - 1) ByteArray.empty).toList (l.getD k ByteArray.empty).toList))) := rfl
      have HST := Lib.hid hst
      clear hst hc
      generalize hx : l.getD k ByteArray.empty = x at *
      have HX := Lib.hid hx
      have HMAX := Lib.hid hmax
      clear hx hmax
      cases hn : nameS x with
      | false =>
        have HN := Lib.hid hn
        clear hn
        go_wp2_with (go_at_call 45; refine (name_is HMAX.out HN.out _).mono ?_; rintro e w1 ⟨rfl, hb1⟩; have HB1 := Lib.hid hb1; clear hb1)
        go_ret
        exact ⟨(ret_bool (setS_false hlt (by rw [HST.out, HN.out]; simp))).symm, below_call HB.out HB1.out⟩
      | true =>
        have HN := Lib.hid hn
        clear hn
        by_cases h0 : k = 0
        · subst h0
          rw [Nat.add_zero] at hcx
          go_wp2_with (go_at_call 45; refine (name_is HMAX.out HN.out _).mono ?_; rintro e w1 ⟨rfl, hb1⟩; have HB1 := Lib.hid hb1; clear hb1)
          go_roundw
          case rel => exact ⟨1, by go_num, by omega, by rw [HST.out, HG.out, HN.out]; rfl, below_call HB.out HB1.out⟩
          case measure => simp [intOf]; omega
        · have hk0 : 0 < k := by omega
          obtain ⟨b2, o2, e2, hc2⟩ := HCS.out (k - 1) (by omega)
          simp only [Option.some.injEq, Addr.mk.injEq, and_true] at e2
          obtain ⟨rfl, rfl⟩ := e2
          generalize hy : l.getD (k - 1) ByteArray.empty = y at *
          have HY := Lib.hid hy
          have HC2 := Lib.hid hc2
          clear hy hc2
          have hkw : IntKind.i64.wrap ((k : Int) - 1) = k - 1 := kwid (by omega) (by omega)
          have hkn : ((k : Int) - 1).toNat = k - 1 := by omega
          cases hless : Op.bytesLess y.toList x.toList with
          | true =>
            have HLS := Lib.hid hless
            go_wp2_with (go_at_call 45; refine (name_is HMAX.out HN.out _).mono ?_; rintro e w1 ⟨rfl, hb1⟩; have HB1 := Lib.hid hb1; have hc3 := cell_below (cell_below HC2.out HB.out) hb1; clear hb1)
            go_roundw
            case rel => exact ⟨k + 1, by go_num, by omega, by rw [HST.out, HG.out, HN.out, HLS.out]; simp, below_call HB.out HB1.out⟩
            case measure => simp [intOf]; omega
          | false =>
            have HLS := Lib.hid hless
            go_wp2_with (go_at_call 45; refine (name_is HMAX.out HN.out _).mono ?_; rintro e w1 ⟨rfl, hb1⟩; have HB1 := Lib.hid hb1; have hc3 := cell_below (cell_below HC2.out HB.out) hb1; clear hb1)
            go_ret
            exact ⟨(ret_bool (setS_false hlt (by rw [HST.out, HN.out, HLS.out]; simp [hk0]))).symm, below_call HB.out HB1.out⟩
    · obtain rfl : k = l.length := by omega
      go_wp2
      go_ret
      exact ⟨ret_bool (by unfold setS; rw [HG.out]; simp; omega), HB.out⟩
end Go.Proofs.YtikamehjeaoilaaGreatDoor
