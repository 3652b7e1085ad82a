/- The program's reader of words: signs and numbers. -/
import Derived.Test.YtikamehjeaoilaaGreatDoorRd
import Derived.Test.YtikamehjeaoilaaGreatDoorShelf
set_option linter.unusedVariables false
set_option linter.unusedSimpArgs false
namespace Go.Proofs.YtikamehjeaoilaaGreatDoor
open Go.RowKit

theorem sign_lib (c : UInt8) (l : List UInt8) : Lib.hasPrefix l [c] = (pSign c l).1 ∧ Lib.trimPrefix l [c] = (pSign c l).2 := by
  unfold Lib.trimPrefix Lib.hasPrefix
  cases l with
  | nil => simp [pSign, List.isPrefixOf]
  | cons x l =>
    by_cases h : x = c
    · subst h; simp [pSign, List.isPrefixOf]
    · have h2 : ¬ c = x := fun e => h e.symm
      simp [pSign, List.isPrefixOf, h, h2]
theorem cut_sign (c : UInt8) (l : List UInt8) (w : World) : Calls Tryz.prog 212 #[.string (str l), .string ⟨#[c]⟩] w fun e w' => e = .returned (.tuple #[.string (str (pSign c l).2), .bool (pSign c l).1]) ∧ w = w' := by
  refine (Tryz.strings_CutPrefix (str l) ⟨#[c]⟩ w).mono ?_
  rintro e w' ⟨rfl, rfl⟩
  have h1 : (str l).data.toList = l := by simp [str]
  have h2 : (⟨#[c]⟩ : ByteArray).data.toList = [c] := rfl
  rw [h1, h2, (sign_lib c l).1, (sign_lib c l).2]
  exact ⟨rfl, rfl⟩
theorem rd_sign (g : Nat) (c : UInt8) (l : List UInt8) (no : Bool) (w : World) (h : RdAt w g l no) :
    Calls Tryz.prog 191 #[.pointer (some ⟨g, 0, none⟩), .string ⟨#[c]⟩] w (RdPost g w (.bool (pSign c l).1) (pSign c l).2 no) := by
  have hc0 : w.cell? ⟨g, 0, none⟩ = some (.string (str l)) := cell_of_block h 0 _ rfl
  have hf := fun j => free_of_block h j
  have H := Lib.hid h
  clear h
  go_enter Tryz.func191, Tryz.ntmps191
  go_wp2_with fail
  refine (cut_sign c l _).mono ?_
  rintro e w' ⟨rfl, rfl⟩
  go_wp2
  go_ret
  exact ⟨rfl, set2a _ H.out, Gb.set _ _ _ _⟩
theorem rd_must (g : Nat) (c : UInt8) (l : List UInt8) (no : Bool) (w : World) (h : RdAt w g l no) :
    Calls Tryz.prog 188 #[.pointer (some ⟨g, 0, none⟩), .string ⟨#[c]⟩] w (RdPost g w (.tuple #[]) (pSign c l).2 (!(pSign c l).1 || no)) := by
  have H := Lib.hid h
  clear h
  go_enter Tryz.func188, Tryz.ntmps188
  go_wp2_with fail
  refine (rd_sign g c l no _ H.out).mono ?_
  rintro e w1 ⟨rfl, h1, hg1⟩
  have hc1 : w1.cell? ⟨g, 1, none⟩ = some (.bool no) := cell_of_block h1 1 _ rfl
  have hf := fun j => free_of_block h1 j
  have H1 := Lib.hid h1
  have HG := Lib.hid hg1
  clear h1 hg1
  cases hb : (pSign c l).1
  all_goals
    go_wp2
    go_end0
    exact ⟨rfl, by rw [hb]; exact set2b _ H1.out, HG.out.trans (Gb.set _ _ _ _)⟩
theorem dig_high {c : UInt8} (h : 128 ≤ c.toNat) : dig c = false := by simp [dig]; omega
theorem val_bound {l : List UInt8} {k : Nat} (hk : k ≤ 15) (hl : k ≤ l.length) (h : ∀ j (hj : j < l.length), j < k → dig l[j] = true) : val (l.take k) ≤ 999999999999999 := by
  have ha : (l.take k).all dig = true := by
    rw [List.all_eq_true]
    intro x hx
    obtain ⟨i, hi, rfl⟩ := List.getElem_of_mem hx
    rw [List.getElem_take]
    exact h i (by simp at hi; omega) (by simp at hi; omega)
  have h1 := val_lt _ ha
  have h2 : 10 ^ (l.take k).length ≤ 10 ^ 15 := Nat.pow_le_pow_right (by decide) (by simp; omega)
  have h3 : (10 : Nat) ^ 15 = 1000000000000000 := by decide
  omega
theorem take_len {p : UInt8 → Bool} {l : List UInt8} {k : Nat} (hk : k ≤ l.length) (h : ∀ j (hj : j < l.length), j < k → p l[j] = true) : k ≤ (l.takeWhile p).length ∧ (0 < k → (l.takeWhile p).head? = l.head?) := by
  have ha : (l.take k).all p = true := by
    rw [List.all_eq_true]
    intro x hx
    obtain ⟨i, hi, rfl⟩ := List.getElem_of_mem hx
    rw [List.getElem_take]
    exact h i (by simp at hi; omega) (by simp at hi; omega)
  have e : l.takeWhile p = l.take k ++ (l.drop k).takeWhile p := by
    conv => lhs; rw [← List.take_append_drop k l]
    rw [List.takeWhile_append_of_pos (by simpa using ha)]
  rw [e]
  refine ⟨by simp; omega, fun hp => ?_⟩
  cases l with
  | nil => simp at hk; omega
  | cons x t =>
    obtain ⟨k, rfl⟩ : ∃ m, k = m + 1 := ⟨k - 1, by omega⟩
    simp
theorem num_bad {g pos : Nat} {l : List UInt8} {no : Bool} {w w1 : World} (hp : pos < l.length) (hd : ∀ j (hj : j < l.length), j < pos + 1 → dig l[j] = true) (hb : 15 < pos + 1 ∨ (1 < pos + 1 ∧ l.head? = some 48)) (hbel : Below w.heap.size w w1)
    (hc : w1.heap[g]? = some (.cells #[.string (str l), .bool no] 245 (0, 0))) :
    RdPost g w (.int .i64 (numX l).1) (numX l).2.1 (no || (numX l).2.2) (.returned (.int .i64 0)) (w1.setCell ⟨g, 1, none⟩ (.bool true)) := by
  have h1 := take_len (p := dig) (k := pos + 1) (by omega) hd
  have e : numX l = (0, l, true) := by
    unfold numX
    rw [if_pos]
    rcases hb with hb | ⟨hb, hh⟩
    · left; omega
    · right; exact ⟨by omega, by rw [h1.2 (by omega)]; exact hh⟩
  unfold RdPost RdAt
  rw [e, Bool.or_true]
  exact ⟨rfl, set2b _ hc, (Gb.of_below hbel).trans (Gb.set _ _ _ _)⟩
theorem num_fin {g pos v : Nat} {l : List UInt8} {no b : Bool} {w w1 : World} {y : ByteArray} (ht : l.takeWhile dig = l.take pos ∧ l.dropWhile dig = l.drop pos) (hp : pos ≤ l.length) (h15 : pos ≤ 15) (hh : 1 < pos → l.head? ≠ some 48) (hb : Below w.heap.size w w1)
    (hc : w1.heap[g]? = some (.cells #[.string (str l), .bool no] 245 (0, 0))) (hv : val (l.take pos) = v) (hy : str (l.drop pos) = y) (hbb : b = (no || decide (pos = 0))) :
    RdPost g w (.int .i64 (numX l).1) (numX l).2.1 (no || (numX l).2.2) (.returned (.int .i64 v)) ((w1.setCell ⟨g, 1, none⟩ (.bool b)).setCell ⟨g, 0, none⟩ (.string y)) := by
  have e : numX l = (v, l.drop pos, decide (pos = 0)) := by
    unfold numX
    rw [ht.1, ht.2, if_neg, hv]
    · simp only [Prod.mk.injEq, true_and]
      rw [Bool.eq_iff_iff, decide_eq_true_eq, decide_eq_true_eq]
      exact take_nil hp
    · rw [List.length_take]
      rintro (h | ⟨h, k⟩)
      · omega
      · cases l with
        | nil => simp at hp; omega
        | cons x t =>
          obtain ⟨q, rfl⟩ : ∃ m, pos = m + 1 := ⟨pos - 1, by omega⟩
          exact hh (by omega) (by simpa using k)
  unfold RdPost RdAt
  rw [e, ← hbb]
  refine ⟨rfl, ?_, ((Gb.of_below hb).trans (Gb.set _ _ _ _)).trans (Gb.set _ _ _ _)⟩
  rw [hy]
  exact set2a _ (set2b _ hc)
set_option maxRecDepth 1000000 in
set_option maxHeartbeats 2000000 in
theorem rd_number (g : Nat) (l : List UInt8) (no : Bool) (w : World) (h : RdAt w g l no) (hl : l.length ≤ 4294967280) :
    Calls Tryz.prog 153 #[.pointer (some ⟨g, 0, none⟩)] w (RdPost g w (.int .i64 (numX l).1) (numX l).2.1 (no || (numX l).2.2)) := by
  have hg : g < w.heap.size := (Array.getElem?_eq_some_iff.1 h).1
  have hsz : (str l).size = l.length := str_size l
  have hcw : w.cell? ⟨g, 0, none⟩ = some (.string (str l)) := cell_of_block h 0 _ rfl
  have H := Lib.hid h
  have HSZ := Lib.hid hsz
  obtain ⟨s, hs⟩ : ∃ s, str l = s := ⟨_, rfl⟩
  rw [hs] at hcw hsz
  have HS := Lib.hid hs
  have hsl : s.size ≤ 4294967280 := by omega
  have hll : l.length = s.size := hsz.symm
  have HLL := Lib.hid hll
  clear h hsz hs hl hll
  go_enter Tryz.func153, Tryz.ntmps153
  go_wp2
  go_loopw [3, 4] (fun n d w' => ∃ pos : Nat, w'.heap[w.heap.size]? = some (.stringIter s pos) ∧ Below w.heap.size w w' ∧ n = .int .i64 (val (l.take pos)) ∧ d = .int .i64 pos ∧ pos ≤ s.size ∧ pos ≤ 15 ∧ (1 < pos → l.head? ≠ some 48) ∧ ∀ j (hj : j < l.length), j < pos → dig l[j] = true) (fun _ _ w' => s.size - w'.iterPos w.heap.size)
  case atStart => exact ⟨0, World.iter_heap _ _ _, below_alloc' (Below.refl _ _) _, rfl, rfl, Nat.zero_le _, Nat.zero_le _, fun h => by omega, fun j _ h => absurd h (Nat.not_lt_zero _)⟩
  case round =>
    obtain ⟨pos, hit, hbel, rfl, rfl, hps, h15, hhd, hno⟩ := hrel
    have hvb := val_bound h15 (by have := HLL.out; omega) hno
    obtain ⟨v, hv⟩ : ∃ v, val (l.take pos) = v := ⟨_, rfl⟩
    rw [hv] at hvb
    rw [hv]
    have HV := Lib.hid hv
    have HNO := Lib.hid hno
    have HIT := Lib.hid hit
    have HBEL := Lib.hid hbel
    have HHD := Lib.hid hhd
    have hip : wr.iterPos w.heap.size = pos := by simp [World.iterPos, hit]
    have HIP := Lib.hid hip
    clear hno hit hbel hip hv hhd
    by_cases hp : pos < s.size
    · have hnx : ∀ ty, (Instr.next (.pointer (some ⟨w.heap.size, 0, none⟩)) true ty).run Tryz.prog wr = _ := fun ty => Lib.run_next_any_at wr w.heap.size s pos ty HIT.out hp
      have hpl : pos < l.length := by have := HLL.out; omega
      -- the rune, the byte
      have hby : (dig l[pos] = true ∧ (Utf8.decode s pos).1 = l[pos].toNat ∧ (Utf8.decode s pos).2 = 1) ∨ (dig l[pos] = false ∧ ((Utf8.decode s pos).1 < 48 ∨ 57 < (Utf8.decode s pos).1)) := by
        have e := HS.out
        subst e
        by_cases ha : ((str l)[pos]'hp).toNat < 128
        · rw [decode_ascii _ pos hp ha, str_get]
          by_cases hd : dig l[pos] = true
          · exact .inl ⟨hd, rfl, rfl⟩
          · refine .inr ⟨by cases hdd : dig l[pos] with | true => exact absurd hdd hd | false => rfl, ?_⟩
            have : ¬ (48 ≤ l[pos].toNat ∧ l[pos].toNat ≤ 57) := fun h => hd (dig_iff.2 h)
            show l[pos].toNat < 48 ∨ 57 < l[pos].toNat
            omega
        · have h1 := (decode_high (str l) pos hp (by omega)).1
          refine .inr ⟨?_, by omega⟩
          have e2 := str_get l pos hp
          rw [e2] at ha
          exact dig_high (by omega)
      generalize hcc : (Utf8.decode s pos).1 = c at *
      generalize hww : (Utf8.decode s pos).2 = wd at *
      have HCC := Lib.hid hcc
      have HWW := Lib.hid hww
      clear hcc hww
      rcases hby with ⟨hd, hce, hwe⟩ | ⟨hd, hce⟩
      · have hcb := dig_iff.1 hd
        rw [← hce] at hcb
        obtain ⟨hcb1, hcb2⟩ := hcb
        have hc48 : ¬ (c : Int) < 48 := by omega
        have hc57 : ¬ 57 < (c : Int) := by omega
        have HD := Lib.hid hd
        have HCE := Lib.hid hce
        have HWE := Lib.hid hwe
        clear hd hce hwe
        have hc0 : (wr.iterAt w.heap.size s (pos + wd)).cell? ⟨g, 0, none⟩ = some (.string s) := cell_below hcw (Lib.below_iterAt HBEL.out (Nat.le_refl _) s (pos + wd))
        have hb1 : (wr.iterAt w.heap.size s (pos + wd)).heap[g]? = some (.cells #[.string s, .bool no] 245 (0, 0)) := by rw [← HS.out]; exact block_below H.out (Lib.below_iterAt HBEL.out (Nat.le_refl _) (str l) (pos + wd) |> fun h => by rw [HS.out] at h ⊢; exact h)
        have hf := fun j => free_of_block hb1 j
        have hc1 : (wr.iterAt w.heap.size s (pos + wd)).cell? ⟨g, 1, none⟩ = some (.bool no) := cell_of_block hb1 1 _ rfl
        have HB1 := Lib.hid hb1
        clear hb1
        have hlen0 : 0 < s.size := by omega
        obtain ⟨b0, hb0⟩ : ∃ b, s[0]'hlen0 = b := ⟨_, rfl⟩
        have hl0 : l.head? = some b0 := by
          have e := HS.out
          subst e
          rw [← hb0, str_get]
          cases l with
          | nil => simp [str_size] at hlen0
          | cons x t => rfl
        have HL0 := Lib.hid hl0
        clear hl0
        have hall : ∀ j (hj : j < l.length), j < pos + 1 → dig l[j] = true := fun j hj h => by
          by_cases e : j = pos
          · subst e; exact HD.out
          · exact HNO.out j hj (by omega)
        have HALL := Lib.hid hall
        have HB0 := Lib.hid (Lib.below_iterAt HBEL.out (Nat.le_refl _) s (pos + wd))
        clear hall
        by_cases hbig : 15 < pos + 1
        · obtain rfl : pos = 15 := by omega
          go_wp2
          go_ret
          exact num_bad hpl HALL.out (.inl (by omega)) HB0.out (by rw [HS.out]; exact HB1.out)
        · have hbig1 : ¬ (15 : Int) < pos + 1 := by omega
          by_cases hz : pos = 0
          · obtain rfl : v = 0 := by rw [← HV.out, hz]; rfl
            subst hz
            rw [Nat.zero_add] at hc0 hc1
            have hf' : ∀ j, (wr.iterAt w.heap.size s wd).frozen? ⟨g, j, none⟩ = false := fun j => by have := hf j; rwa [Nat.zero_add] at this
            clear hf
            have HB0' : Hid (Below w.heap.size w (wr.iterAt w.heap.size s wd)) := by have := HB0; rwa [Nat.zero_add] at this
            go_wp2
            go_roundw
            case rel =>
              refine ⟨1, ?_, HB0'.out, ?_, by go_num, by omega, by omega, fun h => by omega, HALL.out⟩
              · have := Lib.iterAt_heap wr w.heap.size s 0 wd HIT.out
                rw [HWE.out] at this ⊢
                exact this
              · have : val (l.take 1) = c - 48 := by
                  cases l with
                  | nil => simp at hpl
                  | cons x t => have := HCE.out; simp [val, valF] at this ⊢; omega
                rw [this]; go_num
            case measure =>
              rw [HIP.out]
              have := Lib.iterAt_heap wr w.heap.size s 0 wd HIT.out
              simp only [World.iterPos, this]
              have := HWE.out
              omega
          · have hgt : (1 : Int) < pos + 1 := by omega
            by_cases h48 : b0 = 48
            · have hb48 : ((b0.toNat : Int) == 48) = true := by rw [h48]; rfl
              go_wp2
              go_ret
              exact num_bad hpl HALL.out (.inr ⟨by omega, by rw [HL0.out, h48]⟩) HB0.out (by rw [HS.out]; exact HB1.out)
            · have hb48 : ((b0.toNat : Int) == 48) = false := beq_eq_false_iff_ne.2 (fun e => h48 (UInt8.toNat_inj.1 (by simp; omega)))
              go_wp2
              go_roundw
              case rel =>
                refine ⟨pos + 1, ?_, HB0.out, ?_, by go_num, by omega, by omega, fun h => by rw [HL0.out]; simpa using h48, HALL.out⟩
                · have := Lib.iterAt_heap wr w.heap.size s pos (pos + wd) HIT.out
                  rw [HWE.out] at this ⊢
                  exact this
                · have : val (l.take (pos + 1)) = v * 10 + (c - 48) := by
                    rw [List.take_succ_eq_append_getElem hpl, val_snoc, HV.out, HCE.out]
                  rw [this]; go_num
              case measure =>
                rw [HIP.out]
                have := Lib.iterAt_heap wr w.heap.size s pos (pos + wd) HIT.out
                simp only [World.iterPos, this]
                have := HWE.out
                omega
      · have HB1 := Lib.hid (Lib.below_iterAt HBEL.out (Nat.le_refl _) s (pos + wd))
        have HEND : pos = l.length ∨ ∃ h : pos < l.length, dig l[pos] = false := .inr ⟨hpl, hd⟩
        have HENDH := Lib.hid HEND
        clear HEND
        have hcx : (c : Int) < 48 ∨ (¬ (c : Int) < 48 ∧ 57 < (c : Int)) := by omega
        clear hce
        rcases hcx with hcx | ⟨hcx, hcy⟩
        all_goals
          have htk := take_all (p := dig) (l := l) (k := pos) (by have := HLL.out; omega) (fun j hj => HNO.out j (by have := HLL.out; omega) hj) HENDH.out
          have HTK := Lib.hid htk
          clear htk
          have hc0 : (wr.iterAt w.heap.size s (pos + wd)).cell? ⟨g, 0, none⟩ = some (.string s) := cell_below hcw HB1.out
          have hb1 : (wr.iterAt w.heap.size s (pos + wd)).heap[g]? = some (.cells #[.string (str l), .bool no] 245 (0, 0)) := block_below H.out HB1.out
          rw [HS.out] at hb1
          have HBL := Lib.hid hb1
          have hc1 : (wr.iterAt w.heap.size s (pos + wd)).cell? ⟨g, 1, none⟩ = some (.bool no) := cell_of_block hb1 1 _ rfl
          have hf := fun j => free_of_block hb1 j
          clear hb1
          obtain ⟨y, hy⟩ : ∃ y, str (l.drop pos) = y := ⟨_, rfl⟩
          have hey : s.extract pos s.size = y := by rw [← HS.out, str_drop, hy]
          have HY := Lib.hid hy
          clear hy
          by_cases hz : pos = 0
          · have hz1 : ((pos : Int) == 0) = true := by rw [hz]; rfl
            have HZ := Lib.hid hz
            clear hz
            cases no
            all_goals
              go_wp2
              go_ret
              exact num_fin (b := true) HTK.out (by have := HLL.out; omega) h15 HHD.out HB1.out (by rw [HS.out]; exact HBL.out) HV.out HY.out (by simp [HZ.out])
          · have hz1 : ((pos : Int) == 0) = false := beq_eq_false_iff_ne.2 (by omega)
            cases no with
            | false =>
              go_wp2
              go_ret
              exact num_fin (b := false) HTK.out (by have := HLL.out; omega) h15 HHD.out HB1.out (by rw [HS.out]; exact HBL.out) HV.out HY.out (by simp [hz])
            | true =>
              go_wp2
              go_ret
              exact num_fin (b := true) HTK.out (by have := HLL.out; omega) h15 HHD.out HB1.out (by rw [HS.out]; exact HBL.out) HV.out HY.out (by simp [hz])
    · have hnx : ∀ ty, (Instr.next (.pointer (some ⟨w.heap.size, 0, none⟩)) true ty).run Tryz.prog wr = _ := fun ty => Lib.run_next_end_at wr w.heap.size s pos ty HIT.out hp
      have HB1 := Lib.hid HBEL.out
      have htk := take_all (p := dig) (l := l) (k := pos) (by have := HLL.out; omega) (fun j hj => HNO.out j (by have := HLL.out; omega) hj) (.inl (by have := HLL.out; omega))
      have HTK := Lib.hid htk
      clear htk
      have hc0 : wr.cell? ⟨g, 0, none⟩ = some (.string s) := cell_below hcw HB1.out
      have hb1 : wr.heap[g]? = some (.cells #[.string (str l), .bool no] 245 (0, 0)) := block_below H.out HB1.out
      rw [HS.out] at hb1
      have HBL := Lib.hid hb1
      have hc1 : wr.cell? ⟨g, 1, none⟩ = some (.bool no) := cell_of_block hb1 1 _ rfl
      have hf := fun j => free_of_block hb1 j
      clear hb1
      obtain ⟨y, hy⟩ : ∃ y, str (l.drop pos) = y := ⟨_, rfl⟩
      have hey : s.extract pos s.size = y := by rw [← HS.out, str_drop, hy]
      have HY := Lib.hid hy
      clear hy
      by_cases hz : pos = 0
      · have hz1 : ((pos : Int) == 0) = true := by rw [hz]; rfl
        have HZ := Lib.hid hz
        clear hz
        cases no
        all_goals
          go_wp2
          go_ret
          exact num_fin (b := true) HTK.out (by have := HLL.out; omega) h15 HHD.out HB1.out (by rw [HS.out]; exact HBL.out) HV.out HY.out (by simp [HZ.out])
      · have hz1 : ((pos : Int) == 0) = false := beq_eq_false_iff_ne.2 (by omega)
        cases no with
        | false =>
          go_wp2
          go_ret
          exact num_fin (b := false) HTK.out (by have := HLL.out; omega) h15 HHD.out HB1.out (by rw [HS.out]; exact HBL.out) HV.out HY.out (by simp [hz])
        | true =>
          go_wp2
          go_ret
          exact num_fin (b := true) HTK.out (by have := HLL.out; omega) h15 HHD.out HB1.out (by rw [HS.out]; exact HBL.out) HV.out HY.out (by simp [hz])
end Go.Proofs.YtikamehjeaoilaaGreatDoor
