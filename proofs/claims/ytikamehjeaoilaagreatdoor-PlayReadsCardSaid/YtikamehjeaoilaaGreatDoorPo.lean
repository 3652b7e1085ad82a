/- Numbers of a word, by play. -/
import Derived.Test.YtikamehjeaoilaaGreatDoorPn
set_option linter.unusedVariables false
set_option linter.unusedSimpArgs false
namespace Go.Proofs.YtikamehjeaoilaaGreatDoor
open Go.RowKit

def numV (l : List UInt8) : Nat := if isNum l ∧ l.length ≤ 15 then val l else 0
theorem numV_of {most : Nat} {l : List UInt8} (h : numP most l = true) : numV l = val l := by
  unfold numP at h
  simp only [Bool.and_eq_true, decide_eq_true_eq] at h
  unfold numV
  rw [if_pos ⟨h.1, h.2.1⟩]
theorem num_no {most : Nat} {l : List UInt8} (h : ¬ (isNum l ∧ l.length ≤ 15)) : numV l = 0 ∧ numP most l = false := by
  unfold numV numP
  rw [if_neg h]
  refine ⟨rfl, ?_⟩
  cases h1 : decide (isNum l) with
  | false => rfl
  | true =>
    cases h2 : decide (l.length ≤ 15) with
    | false => rfl
    | true => exact absurd ⟨of_decide_eq_true h1, of_decide_eq_true h2⟩ h
theorem num_yes {most : Nat} {l : List UInt8} (h : isNum l) (h15 : l.length ≤ 15) : numV l = val l ∧ numP most l = decide (val l ≤ most) := by
  unfold numV numP
  rw [if_pos ⟨h, h15⟩]
  simp [h, h15]
def NumPost (most : Nat) (l : List UInt8) (w : World) (e : Ending) (w' : World) : Prop := e = .returned (.tuple #[.int .i64 (numV l), .bool (numP most l)]) ∧ Below w.heap.size w w'
set_option maxRecDepth 1000000 in
set_option maxHeartbeats 2000000 in
theorem pnumber_any (l : List UInt8) (most : Nat) (w : World) (hl : l.length ≤ 4294967280) (hm : most ≤ 1099511627776) :
    Calls Tryz.prog 65 #[.string (str l), .int .i64 most] w (NumPost most l w) := by
  have hsz : (str l).size = l.length := str_size l
  obtain ⟨s, hs⟩ : ∃ s, str l = s := ⟨_, rfl⟩
  rw [hs] at hsz
  rw [hs]
  have HS := Lib.hid hs
  have hsl : s.size ≤ 4294967280 := by omega
  have HLL := Lib.hid (hsz.symm : l.length = s.size)
  clear hsz hs hl
  go_enter Tryz.func65, Tryz.ntmps65
  go_wp2
  go_loopw [6] (fun n w' => ∃ pos : Nat, w' = w.iter s pos ∧ n = .int .i64 (val (l.take pos)) ∧ pos ≤ s.size ∧ pos ≤ 15 ∧ (1 < pos → l.head? ≠ some 48) ∧ ∀ j (hj : j < l.length), j < pos → dig l[j] = true) (fun _ w' => s.size - w'.iterPos w.heap.size)
  case atStart => exact ⟨0, rfl, rfl, Nat.zero_le _, Nat.zero_le _, fun h => by omega, fun j _ h => absurd h (Nat.not_lt_zero _)⟩
  case round =>
    obtain ⟨pos, rfl, rfl, hps, h15, hhd, hno⟩ := hrel
    have hvb := val_bound h15 (by have := HLL.out; omega) hno
    obtain ⟨v, hv⟩ : ∃ v, val (l.take pos) = v := ⟨_, rfl⟩
    rw [hv] at hvb
    rw [hv]
    have HV := Lib.hid hv
    have HNO := Lib.hid hno
    have HHD := Lib.hid hhd
    clear hno hv hhd
    by_cases hp : pos < s.size
    · have hnx : ∀ ty, (Instr.next (.pointer (some ⟨w.heap.size, 0, none⟩)) true ty).run Tryz.prog (w.iter s pos) = _ := fun ty => run_next_any w s pos ty hp
      have hpl : pos < l.length := by have := HLL.out; omega
      have hby : (dig l[pos] = true ∧ (Utf8.decode s pos).1 = l[pos].toNat ∧ (Utf8.decode s pos).2 = 1) ∨ (dig l[pos] = false ∧ ((Utf8.decode s pos).1 < 48 ∨ 57 < (Utf8.decode s pos).1)) := by
        have e := HS.out
        subst e
        by_cases ha : ((str l)[pos]'hp).toNat < 128
        · rw [decode_ascii _ pos hp ha, str_get]
          by_cases hd : dig l[pos] = true
          · exact .inl ⟨hd, rfl, rfl⟩
          · refine .inr ⟨by cases hdd : dig l[pos] with | true => exact absurd hdd hd | false => rfl, ?_⟩
            have : ¬ (48 ≤ l[pos].toNat ∧ l[pos].toNat ≤ 57) := fun h => hd (dig_iff.2 h)
            show l[pos].toNat < 48 ∨ 57 < l[pos].toNat
            omega
        · have h1 := (decode_high (str l) pos hp (by omega)).1
          refine .inr ⟨?_, by omega⟩
          have e2 := str_get l pos hp
          rw [e2] at ha
          exact dig_high (by omega)
      generalize hcc : (Utf8.decode s pos).1 = c at *
      generalize hww : (Utf8.decode s pos).2 = wd at *
      have HCC := Lib.hid hcc
      have HWW := Lib.hid hww
      clear hcc hww
      rcases hby with ⟨hd, hce, hwe⟩ | ⟨hd, hce⟩
      · have hcb := dig_iff.1 hd
        rw [← hce] at hcb
        obtain ⟨hcb1, hcb2⟩ := hcb
        have hc48 : ¬ (c : Int) < 48 := by omega
        have hc57 : ¬ 57 < (c : Int) := by omega
        have HD := Lib.hid hd
        have HCE := Lib.hid hce
        subst hwe
        clear hd hce
        have hlen0 : 0 < s.size := by omega
        obtain ⟨b0, hb0⟩ : ∃ b, s[0]'hlen0 = b := ⟨_, rfl⟩
        have HL0 := Lib.hid (show l.head? = some b0 by
          have e := HS.out
          subst e
          rw [← hb0, str_get]
          cases l with
          | nil => simp [str_size] at hlen0
          | cons x t => rfl)
        have HALL := Lib.hid (show ∀ j (hj : j < l.length), j < pos + 1 → dig l[j] = true from fun j hj h => by
          by_cases e : j = pos
          · subst e; exact HD.out
          · exact HNO.out j hj (by omega))
        by_cases hbig : 15 ≤ pos
        · obtain rfl : pos = 15 := by omega
          have HB := Lib.hid (num_no (most := most) (l := l) fun h => by have := h.2; have := HLL.out; omega)
          go_wp2
          go_ret2
          exact ⟨by rw [HB.out.1, HB.out.2]; rfl, below_alloc' (Below.refl _ _) _⟩
        · have hbig1 : ¬ (15 : Int) ≤ pos := by omega
          by_cases hz : pos = 0
          · obtain rfl : v = 0 := by rw [← HV.out, hz]; rfl
            subst hz
            go_wp2
            go_roundw
            case rel =>
              refine ⟨1, rfl, ?_, by omega, by omega, fun h => by omega, HALL.out⟩
              have : val (l.take 1) = c - 48 := by
                cases l with
                | nil => simp at hpl
                | cons x t => have := HCE.out; simp [val, valF] at this ⊢; omega
              rw [this]; go_num
            case measure => simp; omega
          · have hgt : (0 : Int) < pos := by omega
            by_cases h48 : b0 = 48
            · have hb48 : ((b0.toNat : Int) == 48) = true := by rw [h48]; rfl
              have HB := Lib.hid (num_no (most := most) (l := l) fun h => by have h2 := h.1.2.2 (by rw [HL0.out, h48]); omega)
              go_wp2
              go_ret2
              exact ⟨by rw [HB.out.1, HB.out.2]; rfl, below_alloc' (Below.refl _ _) _⟩
            · have hb48 : ((b0.toNat : Int) == 48) = false := beq_eq_false_iff_ne.2 (fun e => h48 (UInt8.toNat_inj.1 (by simp; omega)))
              go_wp2
              go_roundw
              case rel =>
                refine ⟨pos + 1, rfl, ?_, by omega, by omega, fun h => by rw [HL0.out]; simpa using h48, HALL.out⟩
                have : val (l.take (pos + 1)) = v * 10 + (c - 48) := by
                  rw [List.take_succ_eq_append_getElem hpl, val_snoc, HV.out, HCE.out]
                rw [this]; go_num
              case measure => simp; omega
      · have HB := Lib.hid (num_no (most := most) (l := l) fun h => by
          have := List.all_eq_true.1 h.1.2.1 l[pos] (List.getElem_mem hpl)
          rw [hd] at this; cases this)
        have hcx : (c : Int) < 48 ∨ (¬ (c : Int) < 48 ∧ 57 < (c : Int)) := by omega
        clear hce hd
        rcases hcx with hcx | ⟨hcx, hcy⟩
        all_goals
          go_wp2
          go_ret2
          exact ⟨by rw [HB.out.1, HB.out.2]; rfl, below_alloc' (Below.refl _ _) _⟩
    · have hnx : ∀ ty, (Instr.next (.pointer (some ⟨w.heap.size, 0, none⟩)) true ty).run Tryz.prog (w.iter s pos) = _ := fun ty => run_next_end w s pos ty hp
      have hpe : pos = l.length := by have := HLL.out; omega
      have HPE := Lib.hid hpe
      by_cases hz : s.size = 0
      · have hz' := str_nil hz
        have hln : l = [] := List.length_eq_zero_iff.1 (HLL.out.trans hz)
        have HB := Lib.hid (num_no (most := most) (l := l) fun h => h.1.1 hln)
        obtain rfl : v = 0 := by rw [← HV.out, hln, List.take_nil]; rfl
        clear hpe hz hln
        go_wp2
        go_ret2
        exact ⟨by rw [HB.out.1, HB.out.2]; rfl, below_alloc' (Below.refl _ _) _⟩
      · have hz' := str_some hz
        have hz'' : ¬ s.toList = [] := by simpa using hz'
        have hnum : isNum l := ⟨fun e => hz (by rw [← HLL.out, e]; rfl), by
          rw [List.all_eq_true]
          intro x hx
          obtain ⟨i, hi, rfl⟩ := List.getElem_of_mem hx
          exact HNO.out i hi (by omega), fun h => by
            rcases Nat.lt_or_ge 1 pos with h1 | h1
            · exact absurd h (HHD.out h1)
            · have : l.length ≠ 0 := fun e => hz (by rw [← HLL.out, e]); omega⟩
        have HB := Lib.hid (num_yes (most := most) hnum (by omega))
        have hvv : val l = v := by rw [← HV.out, hpe, List.take_length]
        have HVV := Lib.hid hvv
        clear hpe hnum hvv
        by_cases hle : v ≤ most
        · have hle' : (v : Int) ≤ most := by omega
          go_wp2
          go_ret2
          exact ⟨by rw [HB.out.1, HB.out.2, HVV.out]; simp [hle], below_alloc' (Below.refl _ _) _⟩
        · have hle' : ¬ (v : Int) ≤ most := by omega
          go_wp2
          go_ret2
          exact ⟨by rw [HB.out.1, HB.out.2, HVV.out]; simp [hle], below_alloc' (Below.refl _ _) _⟩
end Go.Proofs.YtikamehjeaoilaaGreatDoor
