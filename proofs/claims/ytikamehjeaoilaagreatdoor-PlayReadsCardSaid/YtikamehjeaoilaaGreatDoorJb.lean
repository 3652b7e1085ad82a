/- Index of a plus or a tilde in any text. -/
import Derived.Test.YtikamehjeaoilaaGreatDoorPi
import Derived.Test.YtikamehjeaoilaaGreatDoorPs
import Derived.Test.YtikamehjeaoilaaGreatDoorPn
set_option linter.unusedVariables false
set_option linter.unusedSimpArgs false
namespace Go.Proofs.YtikamehjeaoilaaGreatDoor
open Go.RowKit

def stopN (c : Nat) : Bool := c == 43 || c == 126
theorem stop_two (b : UInt8) : ([43, 126] : List UInt8).contains b = !stopP b := by
  by_cases h : b = 43
  · subst h; decide
  · by_cases h2 : b = 126
    · subst h2; decide
    · have h3 : stopP b = true := by simp [stopP, h, h2]
      rw [h3]
      simp [h, h2]
theorem stop_byte (b : UInt8) : stopN b.toNat = !stopP b := by
  by_cases h : b = 43
  · subst h; decide
  · by_cases h2 : b = 126
    · subst h2; decide
    · have h3 : stopP b = true := by simp [stopP, h, h2]
      have h4 : ¬ b.toNat = 43 := fun e => h (UInt8.toNat_inj.1 (by rw [e]; rfl))
      have h5 : ¬ b.toNat = 126 := fun e => h2 (UInt8.toNat_inj.1 (by rw [e]; rfl))
      simp [stopN, h3, h4, h5]
theorem indexAny_two : ∀ l : List UInt8, Lib.indexAny l [43, 126] = if l.all stopP = true then -1 else ((l.takeWhile stopP).length : Int)
  | [] => rfl
  | b :: l => by
    have ih := indexAny_two l
    rw [Lib.indexAny, stop_two]
    by_cases h : stopP b = true
    · rw [h, ih]
      by_cases h2 : l.all stopP = true
      · simp [h, h2]
      · rw [if_neg h2]
        have h3 : (b :: l).all stopP ≠ true := by simpa [h] using h2
        rw [if_neg h3, List.takeWhile_cons_of_pos h]
        have h4 : ((l.takeWhile stopP).length : Int) ≠ -1 := by omega
        simp [h4]
    · have h' : stopP b = false := by simpa using h
      rw [h']
      simp [h', List.takeWhile_cons_of_neg h]
theorem idxrune_two (c : Nat) (w : World) : Calls Tryz.prog 144 #[.string twoS, .int .i32 c] w fun e w' =>
    ∃ i : Int, e = .returned (.int .i64 i) ∧ (stopN c = true → 0 ≤ i ∧ i ≤ 1) ∧ (stopN c = false → i = -1) ∧ Below w.heap.size w w' := by
  by_cases ha : c < 128
  · refine (Tryz.strings_IndexRune_ascii twoS c w (by omega) (by omega)).mono ?_
    rintro e w' ⟨rfl, rfl⟩
    refine ⟨_, rfl, ?_, ?_, Below.refl _ _⟩
    · intro h
      simp only [stopN, Bool.or_eq_true, beq_iff_eq] at h
      rcases h with rfl | rfl <;> decide
    · intro h
      have hall : ∀ k, k < 128 → stopN k = false → Lib.indexByte twoS.data.toList ((k : Int).toNat.toUInt8) = -1 := by decide +kernel
      exact hall c ha h
  · have hn : stopN c = false := by simp [stopN]; omega
    by_cases he : c = 65533
    · subst he
      refine (idxrune_err w).mono ?_
      rintro e w' ⟨rfl, hb⟩
      exact ⟨_, rfl, fun h => (by rw [hn] at h; cases h), fun _ => rfl, hb⟩
    · cases hv : Lib.validRune (c : Int) with
      | false =>
        refine (idxrune_bad c (by omega) hv (by omega) w).mono ?_
        rintro e w' ⟨rfl, rfl⟩
        exact ⟨_, rfl, fun h => (by rw [hn] at h; cases h), fun _ => rfl, Below.refl _ _⟩
      | true =>
        refine (idxrune_good c (by omega) hv (by omega) w).mono ?_
        rintro e w' ⟨rfl, hb⟩
        exact ⟨_, rfl, fun h => (by rw [hn] at h; cases h), fun _ => rfl, hb⟩
def Idx2Post (l : List UInt8) (w : World) (e : Ending) (w' : World) : Prop := e = .returned (.int .i64 (Lib.indexAny l [43, 126])) ∧ Below w.heap.size w w'
theorem idx2_all {l : List UInt8} {pos : Nat} (hp : pos = l.length) (h : ∀ j (hj : j < l.length), j < pos → stopP l[j] = true) : Lib.indexAny l [43, 126] = -1 := by
  rw [indexAny_two, if_pos]
  rw [List.all_eq_true]
  intro x hx
  obtain ⟨j, hj, rfl⟩ := List.getElem_of_mem hx
  exact h j hj (by omega)
theorem idx2_hit {l : List UInt8} {pos : Nat} (hp : pos < l.length) (h : ∀ j (hj : j < l.length), j < pos → stopP l[j] = true) (hs : stopP l[pos] = false) : Lib.indexAny l [43, 126] = pos := by
  have h1 : ¬ l.all stopP = true := fun e => by
    have := List.all_eq_true.1 e l[pos] (List.getElem_mem hp)
    rw [hs] at this; cases this
  have h2 := take_all (p := stopP) (l := l) (k := pos) (by omega) (fun j hj => h j (by omega) hj) (.inr ⟨hp, hs⟩)
  rw [indexAny_two, if_neg h1, h2.1, List.length_take]
  omega
set_option maxHeartbeats 4000000 in
set_option maxRecDepth 100000 in
theorem idx2_any (l : List UInt8) (w : World) (hl : l.length ≤ 4294967280) : Calls Tryz.prog 109 #[.string (str l), .string twoS] w (Idx2Post l w) := by
  by_cases h8 : 8 < l.length
  · refine (Tryz.strings_IndexAny_long (fun w => by kernel_rfl) (str l) twoS w (by decide) (by rw [str_size]; exact h8) (by rw [str_size]; omega) (by decide) (fun j b hb => by
      have h3 : twoS.data.toList = [43, 126] := rfl
      rw [h3] at hb
      match j, hb with
      | 0, hb => cases hb; decide
      | 1, hb => cases hb; decide)).mono ?_
    rintro e w' ⟨rfl, rfl⟩
    exact ⟨by rw [str_data]; rfl, below_alloc' (below_alloc' (Below.refl _ _) _) _⟩
  · have hsz : (str l).size = l.length := str_size l
    obtain ⟨s, hs⟩ : ∃ s, str l = s := ⟨_, rfl⟩
    rw [hs] at hsz
    rw [hs]
    have HS := Lib.hid hs
    have HSZ := Lib.hid hsz
    have hs8 : ¬ (8 : Int) < s.size := by omega
    have hs9 : s.size ≤ 8 := by omega
    unfold twoS
    clear hsz hs h8 hl
    go_enter Tryz.func109, Tryz.ntmps109
    go_wp2_with fail
    refine (Tryz.strings_shouldUseASCIISet _ w).mono ?_
    rintro e w1 ⟨rfl, hw1⟩
    rw [hw1, decide_eq_false (by omega : ¬ (8 : Int) < s.size)]
    clear hw1 w1
    go_wp2_with fail
    go_loopw [] (fun w' => ∃ pos : Nat, w'.heap[w.heap.size]? = some (.stringIter s pos) ∧ Below w.heap.size w w' ∧ pos ≤ s.size ∧ ∀ j (hj : j < l.length), j < pos → stopP l[j] = true) (fun w' => s.size - w'.iterPos w.heap.size)
    case atStart => exact ⟨0, World.iter_heap _ _ _, below_alloc' (Below.refl _ _) _, Nat.zero_le _, fun j _ h => absurd h (Nat.not_lt_zero _)⟩
    case round =>
      obtain ⟨pos, hit, hbel, hps, hno⟩ := hrel
      have HNO := Lib.hid hno
      have HIT := Lib.hid hit
      have HBEL := Lib.hid hbel
      have hip : wr.iterPos w.heap.size = pos := by simp [World.iterPos, hit]
      have HIP := Lib.hid hip
      clear hno hit hbel hip
      by_cases hp : pos < s.size
      · have hnx : ∀ ty, (Instr.next (.pointer (some ⟨w.heap.size, 0, none⟩)) true ty).run Tryz.prog wr = _ := fun ty => Lib.run_next_any_at wr w.heap.size s pos ty HIT.out hp
        have hwd := width_pos s pos hp
        have hpl : pos < l.length := by have := HSZ.out; omega
        have hbytes : ∀ j (hj : j < l.length), pos ≤ j → j < pos + (Utf8.decode s pos).2 → stopN (Utf8.decode s pos).1 = false → stopP l[j] = true := by
          intro j hj h1 h2 h3
          have e := HS.out
          subst e
          have key : stopN l[j].toNat = false := by
            by_cases ha : ((str l)[pos]'hp).toNat < 128
            · rw [decode_ascii _ pos hp ha] at h2 h3
              obtain rfl : j = pos := by simp at h2; omega
              rw [str_get] at h3
              exact h3
            · have h4 := decode_skip (str l) pos hp (by omega) (j - pos) (by omega)
              rw [show pos + (j - pos) = j by omega] at h4
              have e : (str l).get! j = l[j] := (get_at (str l) j (by rw [str_size]; exact hj)).trans (str_get l j _)
              rw [e] at h4
              simp [stopN]; omega
          rw [stop_byte] at key
          simpa using key
        have hhit : stopN (Utf8.decode s pos).1 = true → stopP l[pos] = false := by
          intro h3
          have e := HS.out
          subst e
          by_cases ha : ((str l)[pos]'hp).toNat < 128
          · rw [decode_ascii _ pos hp ha, str_get] at h3
            have : stopN l[pos].toNat = true := h3
            rw [stop_byte] at this
            exact (Bool.not_eq_true' _).mp this
          · have h5 := (decode_high (str l) pos hp (by omega)).1
            simp [stopN] at h3
            omega
        have hwle : pos + (Utf8.decode s pos).2 ≤ s.size := width_le s pos hp
        generalize hcc : (Utf8.decode s pos).1 = c at *
        generalize hww : (Utf8.decode s pos).2 = wd at *
        have HBY := Lib.hid hbytes
        have HHI := Lib.hid hhit
        have HCC := Lib.hid hcc
        have HWW := Lib.hid hww
        clear hcc hww hbytes hhit
        go_wp2_with fail
        refine (idxrune_two c _).mono ?_
        rintro e w1 ⟨i, rfl, hyes, hno, hb1⟩
        have HI1 := Lib.hid (block_below (Lib.iterAt_heap wr w.heap.size s pos (pos + wd) HIT.out) hb1)
        have HB1 := Lib.hid (below_call (Lib.below_iterAt HBEL.out (Nat.le_refl _) s (pos + wd)) hb1)
        clear hb1
        cases hpart : stopN c with
        | false =>
          have HP := Lib.hid hpart
          obtain rfl := hno hpart
          clear hpart hyes hno
          go_wp2
          go_roundw
          case rel =>
            refine ⟨pos + wd, HI1.out, HB1.out, hwle, fun j hj hlt => ?_⟩
            rcases Nat.lt_or_ge j pos with h1 | h1
            · exact HNO.out j hj h1
            · exact HBY.out j hj h1 hlt HP.out
          case measure =>
            rw [HIP.out]
            have := HI1.out
            simp [World.iterPos, this]
            omega
        | true =>
          have HP := Lib.hid hpart
          obtain ⟨hi0, hi1⟩ := hyes hpart
          clear hpart hyes hno
          go_wp2
          go_ret
          exact ⟨ret_int (idx2_hit hpl HNO.out (HHI.out HP.out)).symm, HB1.out⟩
      · have hnx : ∀ ty, (Instr.next (.pointer (some ⟨w.heap.size, 0, none⟩)) true ty).run Tryz.prog wr = _ := fun ty => Lib.run_next_end_at wr w.heap.size s pos ty HIT.out (by omega)
        go_wp2
        go_ret
        exact ⟨ret_int (idx2_all (by have := HSZ.out; omega) HNO.out).symm, HBEL.out⟩
end Go.Proofs.YtikamehjeaoilaaGreatDoor
/-! A pod's word, by play. -/
set_option linter.unusedVariables false
set_option linter.unusedSimpArgs false
namespace Go.Proofs.YtikamehjeaoilaaGreatDoor
open Go.RowKit

/-- The cells of a pod, its rows of texts in blocks from base on. -/
def PodT (base : Nat) (w : World) (cs : List Value) (p : PodL) : Prop :=
  ∃ u v, cs = [.string (str p.name), .int .i64 p.shard, .int .i64 p.cpu, .int .i64 p.mem, u, v, .bool p.alone] ∧ Tx base w u p.picks ∧ Tx base w v p.bears
theorem PodT.below {base : Nat} {w w' : World} {cs : List Value} {p : PodL} (h : PodT base w cs p) (k : Below w.heap.size w w') : PodT base w' cs p := by
  obtain ⟨u, v, e, h1, h2⟩ := h
  exact ⟨u, v, e, h1.below k, h2.below k⟩
theorem PodT.base {b b' : Nat} {w : World} {cs : List Value} {p : PodL} (h : PodT b w cs p) (k : b' ≤ b) : PodT b' w cs p := by
  obtain ⟨u, v, e, h1, h2⟩ := h
  exact ⟨u, v, e, h1.base k, h2.base k⟩
theorem PodT.len {base : Nat} {w : World} {cs : List Value} {p : PodL} (h : PodT base w cs p) : cs.length = 7 := by
  obtain ⟨u, v, rfl, _⟩ := h
  rfl
/-- What play.pod hands back, whatever the word. -/
def podX (s : List UInt8) : PodL :=
  ⟨(cutC 64 (strip s)).1, numV (cutC 58 (cutC 64 (strip s)).2.1).1, numV (cutC 44 ((cutC 58 (cutC 64 (strip s)).2.1).2.1.takeWhile stopP)).1, numV (cutC 44 ((cutC 58 (cutC 64 (strip s)).2.1).2.1.takeWhile stopP)).2.1,
    (setP 43 126 ((cutC 58 (cutC 64 (strip s)).2.1).2.1.dropWhile stopP)).1, (setP 126 33 (setP 43 126 ((cutC 58 (cutC 64 (strip s)).2.1).2.1.dropWhile stopP)).2.1).1, decide (s.getLast? = some 33)⟩
def podB (s : List UInt8) : Bool :=
  ((((((((cutC 64 (strip s)).2.2 && (cutC 58 (cutC 64 (strip s)).2.1).2.2) && numP 999999 (cutC 58 (cutC 64 (strip s)).2.1).1) && vecB ((cutC 58 (cutC 64 (strip s)).2.1).2.1.takeWhile stopP)) && (setP 43 126 ((cutC 58 (cutC 64 (strip s)).2.1).2.1.dropWhile stopP)).2.2) && (setP 126 33 (setP 43 126 ((cutC 58 (cutC 64 (strip s)).2.1).2.1.dropWhile stopP)).2.1).2.2) && decide ((setP 126 33 (setP 43 126 ((cutC 58 (cutC 64 (strip s)).2.1).2.1.dropWhile stopP)).2.1).2.1 = [])) && nameB (cutC 64 (strip s)).1)
theorem podX_of {s : List UInt8} {p : PodL} (h : podP s = some p) : podX s = p := by
  unfold podP at h
  simp only at h
  split at h
  · rename_i hc
    simp only [Bool.and_eq_true] at hc
    obtain ⟨⟨⟨⟨⟨⟨⟨_, _⟩, h3⟩, _, h4, h5⟩, _⟩, _⟩, _⟩, _⟩ := hc
    rw [← Option.some.inj h]
    unfold podX
    rw [numV_of h3, numV_of h4, numV_of h5]
  · cases h
theorem podB_is (s : List UInt8) : (podP s).isSome = podB s := by
  unfold podP
  simp only
  split
  · rename_i hc
    exact hc.symm
  · rename_i hc
    have : podB s ≠ true := hc
    show false = podB s
    cases hb : podB s with
    | false => rfl
    | true => exact absurd hb this
theorem strip_lib (s : List UInt8) : Lib.trimSuffix s [33] = strip s ∧ Lib.hasSuffix s [33] = decide (s.getLast? = some 33) := by
  have h : Lib.hasSuffix s [33] = decide (s.getLast? = some 33) := by
    unfold Lib.hasSuffix
    rw [Bool.eq_iff_iff, decide_eq_true_eq, List.isSuffixOf_iff_suffix]
    constructor
    · rintro ⟨t, rfl⟩; simp
    · intro h
      obtain ⟨t, rfl⟩ := List.getLast?_eq_some_iff.1 h
      exact ⟨t, rfl⟩
  refine ⟨?_, h⟩
  unfold Lib.trimSuffix strip
  rw [h]
  split
  · simp [List.dropLast_eq_take]
  · rfl
theorem strip_len (s : List UInt8) : (strip s).length ≤ s.length := by
  unfold strip
  split
  · simp
  · exact Nat.le_refl _
theorem cutsuf (s : List UInt8) (w : World) (hs : s.length ≤ 4294967280) : Calls Tryz.prog 107 #[.string (str s), .string ⟨#[33]⟩] w fun e w' =>
    e = .returned (.tuple #[.string (str (strip s)), .bool (decide (s.getLast? = some 33))]) ∧ w = w' := by
  refine (Tryz.strings_CutSuffix (str s) ⟨#[33]⟩ w (by rw [str_size]; omega)).mono ?_
  rintro e w' ⟨rfl, rfl⟩
  have h3 : (⟨#[33]⟩ : ByteArray).data.toList = [33] := rfl
  rw [str_data, h3, (strip_lib s).1, (strip_lib s).2]
  exact ⟨rfl, rfl⟩
theorem idx2_end (l : List UInt8) : Lib.indexAny (l ++ [43]) [43, 126] = ((l.takeWhile stopP).length : Int) := by
  rw [indexAny_two]
  have h1 : ¬ (l ++ [43]).all stopP = true := by
    rw [List.all_append]; simp [stopP]
  rw [if_neg h1]
  congr 1
  have : (l ++ [43]).takeWhile stopP = l.takeWhile stopP := by
    clear h1
    induction l with
    | nil => rfl
    | cons x t ih =>
      rw [List.cons_append]
      by_cases hx : stopP x = true
      · rw [List.takeWhile_cons_of_pos hx, List.takeWhile_cons_of_pos hx, ih]
      · rw [List.takeWhile_cons_of_neg hx, List.takeWhile_cons_of_neg hx]
  rw [this]
theorem tw_stop (l : List UInt8) : l.takeWhile stopP = l.take (l.takeWhile stopP).length ∧ l.dropWhile stopP = l.drop (l.takeWhile stopP).length := by
  have h : l.takeWhile stopP ++ l.dropWhile stopP = l := List.takeWhile_append_dropWhile
  have e1 := List.take_left (l₁ := l.takeWhile stopP) (l₂ := l.dropWhile stopP)
  have e2 := List.drop_left (l₁ := l.takeWhile stopP) (l₂ := l.dropWhile stopP)
  rw [h] at e1 e2
  exact ⟨e1.symm, e2.symm⟩
theorem then_at {K : Act → World → Prop} {Q : Exit → Act → World → Prop} {x : Exit} {a : Act} {w W : World} (h : w = W) (k : Exit.then K Q x a W) : Exit.then K Q x a w := by rw [h]; exact k
theorem Gb.sets' (g : Nat) : ∀ (vs : List Value) (o : Nat) (w : World), Gb g w (w.setCells g o vs)
  | [], _, w => Gb.refl g w
  | u :: r, o, w => (Gb.set w g o u).trans (Gb.sets' g r (o + 1) _)
theorem laid7 (x0 x1 x2 x3 x4 x5 x6 y0 y1 y2 y3 y4 y5 y6 : Value) : laid #[x0, x1, x2, x3, x4, x5, x6] 0 [y0, y1, y2, y3, y4, y5, y6] = #[y0, y1, y2, y3, y4, y5, y6] := by simp [laid]
theorem sets7 {w : World} {b : Nat} {T : TypeId} {x0 x1 x2 x3 x4 x5 x6 : Value} (y0 y1 y2 y3 y4 y5 y6 : Value) (h : w.heap[b]? = some (.cells #[x0, x1, x2, x3, x4, x5, x6] T (0, 0))) : (w.setCells b 0 [y0, y1, y2, y3, y4, y5, y6]).heap[b]? = some (.cells #[y0, y1, y2, y3, y4, y5, y6] T (0, 0)) := by
  rw [← laid7 x0 x1 x2 x3 x4 x5 x6 y0 y1 y2 y3 y4 y5 y6]
  exact heap_setCells b T [y0, y1, y2, y3, y4, y5, y6] 0 w #[x0, x1, x2, x3, x4, x5, x6] h
def PodPost (s : List UInt8) (w : World) (e : Ending) (w' : World) : Prop :=
  ∃ cs, e = .returned (.tuple #[.agg cs.toArray, .bool (podB s)]) ∧ PodT w.heap.size w' cs (podX s) ∧ Below w.heap.size w w'
set_option maxRecDepth 1000000 in
set_option maxHeartbeats 8000000 in
theorem ppod_any (s : List UInt8) (w : World) (ht : Tabs w) (hs : s.length ≤ 4294967000) : Calls Tryz.prog 66 #[.string (str s)] w (PodPost s w) := by
  have HT := Lib.hid ht
  have HS := Lib.hid hs
  have HLS := Lib.hid (strip_len s)
  clear ht
  go_enter Tryz.func66, Tryz.ntmps66
  go_wp2_with fail
  refine (cutsuf s _ (by omega)).mono ?_
  rintro e w1 ⟨rfl, hw1⟩
  have hz1 : w1.heap[w.heap.size]? = some (.cells #[.string ⟨#[]⟩, .int .i64 0, .int .i64 0, .int .i64 0, .slice none 0 0, .slice none 0 0, .bool false] 54 (0, 0)) := by rw [← hw1]; exact alloc_at _ _
  have hb1 : Below w.heap.size w w1 := by rw [← hw1]; exact below_alloc' (Below.refl _ _) _
  clear hw1
  obtain ⟨f, hf⟩ : ∃ f, decide (s.getLast? = some 33) = f := ⟨_, rfl⟩
  obtain ⟨s1, hs1⟩ : ∃ s1, strip s = s1 := ⟨_, rfl⟩
  rw [hf, hs1]
  have HF := Lib.hid hf
  have HS1 := Lib.hid hs1
  have hl1 : s1.length ≤ 4294967000 := by have := HLS.out; rw [hs1] at this; omega
  have HL1 := Lib.hid hl1
  have c6 := cell_of_block hz1 6 _ rfl
  have f6 := free_of_block hz1 6
  have hz2 := heap_setCell_same w1 w.heap.size 6 _ _ (.bool f) hz1
  have hb2 := hb1.setCell (p := ⟨w.heap.size, 6, none⟩) (Nat.le_refl _) (.bool f)
  have HZ2 := Lib.hid hz2
  have HB2 := Lib.hid hb2
  clear hf hs1 hz1 hb1 hl1 hz2 hb2
  go_wp2_with fail
  refine (cut_any s1 64 _ (HT.out.below HB2.out) (by have := HL1.out; omega)).mono ?_
  rintro e w3 ⟨rfl, q3, hw3⟩
  have hz3 : w3.heap[w.heap.size]? = some (.cells #[.string ⟨#[]⟩, .int .i64 0, .int .i64 0, .int .i64 0, .slice none 0 0, .slice none 0 0, .bool f] 54 (0, 0)) := by rw [hw3]; exact HZ2.out
  have hb3 : Below w.heap.size w w3 := by rw [hw3]; exact drewN_below HB2.out q3
  clear hw3
  have hcl := cutC_len 64 s1
  obtain ⟨a, ha⟩ : ∃ a, cutC 64 s1 = a := ⟨_, rfl⟩
  rw [ha] at hcl
  rw [ha]
  have HA := Lib.hid ha
  have HCL := Lib.hid hcl
  have HZ3 := Lib.hid hz3
  have HB3 := Lib.hid hb3
  clear ha hcl hz3 hb3 c6 f6
  go_wp2_with fail
  refine (cut_any a.2.1 58 _ (HT.out.below HB3.out) (by have := HL1.out; have := HCL.out.2; omega)).mono ?_
  rintro e w4 ⟨rfl, q4, hw4⟩
  have hz4 : w4.heap[w.heap.size]? = some (.cells #[.string ⟨#[]⟩, .int .i64 0, .int .i64 0, .int .i64 0, .slice none 0 0, .slice none 0 0, .bool f] 54 (0, 0)) := by rw [hw4]; exact HZ3.out
  have hb4 : Below w.heap.size w w4 := by rw [hw4]; exact drewN_below HB3.out q4
  clear hw4
  have hcl := cutC_len 58 a.2.1
  obtain ⟨b, hb⟩ : ∃ b, cutC 58 a.2.1 = b := ⟨_, rfl⟩
  rw [hb] at hcl
  rw [hb]
  have HBB := Lib.hid hb
  have HCM := Lib.hid hcl
  have hlen : b.2.1.length ≤ 4294967000 := by have := HL1.out; have := HCL.out.2; omega
  have HLEN := Lib.hid hlen
  have HZ4 := Lib.hid hz4
  have HB4 := Lib.hid hb4
  have e0 : str b.2.1 ++ (⟨#[43]⟩ : ByteArray) = str (b.2.1 ++ [43]) := str_append _ _
  have hsz : (str b.2.1).size = b.2.1.length := str_size _
  clear hb hcl hz4 hb4
  go_wp2_with fail
  refine (idx2_any (b.2.1 ++ [43]) _ (by have := HLEN.out; simp; omega)).mono ?_
  rintro e w5 ⟨rfl, hb5⟩
  rw [idx2_end]
  have htw := tw_stop b.2.1
  obtain ⟨k, hk⟩ : ∃ k, (b.2.1.takeWhile stopP).length = k := ⟨_, rfl⟩
  have hkl : k ≤ b.2.1.length := by rw [← hk]; exact (List.takeWhile_sublist _).length_le
  rw [hk] at htw
  rw [hk]
  obtain ⟨tw, htw1⟩ : ∃ tw, b.2.1.takeWhile stopP = tw := ⟨_, rfl⟩
  obtain ⟨dw, hdw1⟩ : ∃ dw, b.2.1.dropWhile stopP = dw := ⟨_, rfl⟩
  rw [htw1, hdw1] at htw
  have htl : tw.length ≤ 4294967000 := by rw [htw.1, List.length_take]; have := HLEN.out; omega
  have hdl : dw.length ≤ 4294967000 := by rw [htw.2, List.length_drop]; have := HLEN.out; omega
  obtain ⟨z, hz⟩ : ∃ z, str b.2.1 = z := ⟨_, rfl⟩
  have hzs : z.size = b.2.1.length := by rw [← hz, str_size]
  have hex : z.extract 0 k = str tw := by rw [htw.1, ← hz, str_take]
  have hey : z.extract k z.size = str dw := by rw [htw.2, ← hz, str_drop]
  have hkz : k ≤ z.size := by omega
  rw [hz]
  have HTW := Lib.hid htw1
  have HDW := Lib.hid hdw1
  have HTL := Lib.hid htl
  have HDL := Lib.hid hdl
  have HZ5 := Lib.hid (block_below HZ4.out hb5)
  have HB5 := Lib.hid (below_call HB4.out hb5)
  clear e0 hsz hb5 htw hk hkl hz hzs htw1 hdw1 htl hdl
  go_wp2_with fail
  refine (pnumber_any b.1 999999 _ (by have := HCM.out.1; have := HL1.out; have := HCL.out.2; omega) (by decide)).mono ?_
  rintro e w6 ⟨rfl, hb6⟩
  obtain ⟨nn, hnn⟩ : ∃ n, numV b.1 = n := ⟨_, rfl⟩
  obtain ⟨nb, hnb⟩ : ∃ n, numP 999999 b.1 = n := ⟨_, rfl⟩
  rw [hnn, hnb]
  have HNN := Lib.hid hnn
  have HNB := Lib.hid hnb
  have HZ6 := Lib.hid (block_below HZ5.out hb6)
  have HB6 := Lib.hid (below_call HB5.out hb6)
  clear hb6 hnn hnb
  go_wp2_with fail
  refine (pvec_any tw _ (HT.out.below HB6.out) (by have := HTL.out; omega)).mono ?_
  rintro e w7 ⟨rfl, hb7⟩
  obtain ⟨cp, hcp⟩ : ∃ n, numV (cutC 44 tw).1 = n := ⟨_, rfl⟩
  obtain ⟨mm, hmm⟩ : ∃ n, numV (cutC 44 tw).2.1 = n := ⟨_, rfl⟩
  obtain ⟨vb, hvb⟩ : ∃ n, vecB tw = n := ⟨_, rfl⟩
  rw [hcp, hmm, hvb]
  have HCP := Lib.hid hcp
  have HMM := Lib.hid hmm
  have HVB := Lib.hid hvb
  have HZ7 := Lib.hid (block_below HZ6.out hb7)
  have HB7 := Lib.hid (below_call HB6.out hb7)
  clear hb7 hcp hmm hvb
  go_wp2_with fail
  have hz8 := block_below HZ7.out (below_alloc' (Below.refl w7.heap.size w7) (.cells #[.int .i64 cp, .int .i64 mm] 28))
  have hy8 : (w7.alloc (.cells #[.int .i64 cp, .int .i64 mm] 28)).heap[w7.heap.size]? = some (.cells #[.int .i64 cp, .int .i64 mm] 28 (0, 0)) := alloc_at _ _
  have hb8 : Below w.heap.size w (w7.alloc (.cells #[.int .i64 cp, .int .i64 mm] 28)) := below_call HB7.out (below_alloc' (Below.refl _ _) _)
  generalize World.alloc w7 _ = w8 at hz8 hy8 hb8 ⊢
  have HZ8 := Lib.hid hz8
  have HY8 := Lib.hid hy8
  have HB8 := Lib.hid hb8
  clear hz8 hy8 hb8
  refine (pset_any dw 43 126 (by decide) _ (HT.out.below HB8.out) (by have := HDL.out; omega)).mono ?_
  rintro e w9 ⟨u, rfl, hu, hb9⟩
  have hxl : (setP 43 126 dw).2.1.length ≤ dw.length := (List.dropWhile_sublist _).length_le
  obtain ⟨x, hx⟩ : ∃ x, setP 43 126 dw = x := ⟨_, rfl⟩
  rw [hx] at hu hxl
  rw [hx]
  have hux : Tx (w.heap.size + 1) w9 u x.1 := hu.base (Array.getElem?_eq_some_iff.1 HZ8.out).1
  obtain ⟨pu, cu, rfl, _⟩ := id hux
  have HX := Lib.hid hx
  have HXL := Lib.hid hxl
  have HU := Lib.hid hux
  have HZ9 := Lib.hid (block_below HZ8.out hb9)
  have HY9 := Lib.hid (block_below HY8.out hb9)
  have HB9 := Lib.hid (below_call HB8.out hb9)
  clear hu hux hb9 hx hxl
  go_wp2_with fail
  refine (pset_any x.2.1 126 33 (by decide) _ (HT.out.below HB9.out) (by have := HDL.out; have := HXL.out; omega)).mono ?_
  rintro e w10 ⟨v, rfl, hv, hb10⟩
  obtain ⟨y, hy⟩ : ∃ y, setP 126 33 x.2.1 = y := ⟨_, rfl⟩
  rw [hy] at hv
  rw [hy]
  have hvy : Tx (w.heap.size + 1) w10 v y.1 := hv.base (Array.getElem?_eq_some_iff.1 HZ9.out).1
  obtain ⟨pv, cv, rfl, _⟩ := id hvy
  have HY := Lib.hid hy
  have HV := Lib.hid hvy
  have HU10 := Lib.hid (HU.out.below hb10)
  have hz10 : w10.heap[w.heap.size]? = some (.cells #[.string ⟨#[]⟩, .int .i64 0, .int .i64 0, .int .i64 0, .slice none 0 0, .slice none 0 0, .bool f] 54 (0, 0)) := block_below HZ9.out hb10
  have hy10 : w10.heap[w7.heap.size]? = some (.cells #[.int .i64 cp, .int .i64 mm] 28 (0, 0)) := block_below HY9.out hb10
  have HB10 := Lib.hid (below_call HB9.out hb10)
  have HZ10 := Lib.hid hz10
  have f0 := fun j => free_of_block hz10 j
  have a0 := cell_of_block hz10 0 _ rfl
  have a1 := cell_of_block hz10 1 _ rfl
  have a2 := cell_of_block hz10 2 _ rfl
  have a3 := cell_of_block hz10 3 _ rfl
  have a4 := cell_of_block hz10 4 _ rfl
  have a5 := cell_of_block hz10 5 _ rfl
  have a6 := cell_of_block hz10 6 _ rfl
  have b0 := cell_of_block hy10 0 _ rfl
  have b1 := cell_of_block hy10 1 _ rfl
  clear hv hvy hb10 hy hz10 hy10
  obtain ⟨nm, hnm⟩ : ∃ y, str a.1 = y := ⟨_, rfl⟩
  have HNM := Lib.hid hnm
  rw [hnm]
  clear hnm
  have hlt : w.heap.size < w7.heap.size := (Array.getElem?_eq_some_iff.1 HZ7.out).1
  have n1 : ¬ w.heap.size = w7.heap.size := by omega
  have n2 : ¬ w7.heap.size = w.heap.size := by omega
  go_upto_region 9 with fail
  go_region
  have hpb : podB s = (((((((a.2.2 && b.2.2) && nb) && vb) && x.2.2) && y.2.2) && decide (y.2.1 = [])) && nameB a.1) := by
    unfold podB
    rw [HS1.out, HA.out, HBB.out, HNB.out, HTW.out, HVB.out, HDW.out, HX.out, HY.out]
  have hpx : podX s = ⟨a.1, nn, cp, mm, x.1, y.1, f⟩ := by
    unfold podX
    rw [HS1.out, HA.out, HBB.out, HNN.out, HTW.out, HCP.out, HMM.out, HDW.out, HX.out, HY.out, HF.out]
  have HPB := Lib.hid hpb
  have HPX := Lib.hid hpx
  have g2 : (w10.setCells w.heap.size 0 [.string nm, .int .i64 nn, .int .i64 cp, .int .i64 mm, .slice pu x.1.length cu, .slice pv y.1.length cv]).heap[w.heap.size]? = some (.cells #[.string nm, .int .i64 nn, .int .i64 cp, .int .i64 mm, .slice pu x.1.length cu, .slice pv y.1.length cv, .bool f] 54 (0, 0)) := by
    rw [heap_setCells w.heap.size 54 [.string nm, .int .i64 nn, .int .i64 cp, .int .i64 mm, .slice pu x.1.length cu, .slice pv y.1.length cv] 0 w10 _ HZ10.out]
    simp [laid]
  have g3 : Tx (w.heap.size + 1) (w10.setCells w.heap.size 0 [.string nm, .int .i64 nn, .int .i64 cp, .int .i64 mm, .slice pu x.1.length cu, .slice pv y.1.length cv]) (.slice pu x.1.length cu) x.1 := HU10.out.gb (Gb.sets' w.heap.size [.string nm, .int .i64 nn, .int .i64 cp, .int .i64 mm, .slice pu x.1.length cu, .slice pv y.1.length cv] 0 w10) (Nat.lt_succ_self _)
  have g4 : Tx (w.heap.size + 1) (w10.setCells w.heap.size 0 [.string nm, .int .i64 nn, .int .i64 cp, .int .i64 mm, .slice pu x.1.length cu, .slice pv y.1.length cv]) (.slice pv y.1.length cv) y.1 := HV.out.gb (Gb.sets' w.heap.size [.string nm, .int .i64 nn, .int .i64 cp, .int .i64 mm, .slice pu x.1.length cu, .slice pv y.1.length cv] 0 w10) (Nat.lt_succ_self _)
  have g5 := below_sets (b := w.heap.size) (Nat.le_refl _) [.string nm, .int .i64 nn, .int .i64 cp, .int .i64 mm, .slice pu x.1.length cu, .slice pv y.1.length cv] 0 w10 HB10.out
  obtain ⟨W1, hW1⟩ : ∃ W1, w10.setCells w.heap.size 0 [.string nm, .int .i64 nn, .int .i64 cp, .int .i64 mm, .slice pu x.1.length cu, .slice pv y.1.length cv] = W1 := ⟨_, rfl⟩
  rw [hW1] at g2 g3 g4 g5
  have g2' : W1.drew.heap[w.heap.size]? = _ := g2
  have hW2 := congrArg World.drew hW1
  replace g3 := g3.drew
  replace g4 := g4.drew
  replace g5 := g5.drew
  refine then_at hW2 ?_
  clear hW2 hW1 g2
  generalize W1.drew = W2 at g2' g3 g4 g5 ⊢
  have PREW := Lib.hid (show (fun w3 => w3.heap[w.heap.size]? = some (Obj.cells #[.string nm, .int .i64 nn, .int .i64 cp, .int .i64 mm, .slice pu x.1.length cu, .slice pv y.1.length cv, .bool f] 54 (0, 0)) ∧ Tx (w.heap.size + 1) w3 (.slice pu x.1.length cu) x.1 ∧ Tx (w.heap.size + 1) w3 (.slice pv y.1.length cv) y.1) W2 from ⟨g2', g3, g4⟩)
  have HBW := Lib.hid (show Below w.heap.size w W2 from g5)
  clear g2' g3 g4 g5
  clear hpb hpx a0 a1 a2 a3 a4 a5 a6 b0 b1 f0 n1 n2 hlt hs
  obtain ⟨c1, hc1⟩ : ∃ c, a.2.2 = c := ⟨_, rfl⟩
  obtain ⟨c2, hc2⟩ : ∃ c, b.2.2 = c := ⟨_, rfl⟩
  obtain ⟨c5, hc5⟩ : ∃ c, x.2.2 = c := ⟨_, rfl⟩
  obtain ⟨c6, hc6⟩ : ∃ c, y.2.2 = c := ⟨_, rfl⟩
  have HC1 := Lib.hid hc1
  have HC2 := Lib.hid hc2
  have HC5 := Lib.hid hc5
  have HC6 := Lib.hid hc6
  obtain ⟨yy, hyy⟩ : ∃ c, y.2.1 = c := ⟨_, rfl⟩
  have HYY := Lib.hid hyy
  rw [hc1, hc2, hc5, hc6, hyy]
  clear hc1 hc2 hc5 hc6 hyy
  have HNS := Lib.hid (show nm.size ≤ maxLen by rw [← HNM.out, str_size]; have := HCL.out.1; have := HL1.out; unfold maxLen; omega)
  have hcases : c1 = false ∨ (c1 = true ∧ c2 = false) ∨ (c1 = true ∧ c2 = true ∧ nb = false) ∨ (c1 = true ∧ c2 = true ∧ nb = true ∧ vb = false) ∨ (c1 = true ∧ c2 = true ∧ nb = true ∧ vb = true ∧ c5 = false) ∨ (c1 = true ∧ c2 = true ∧ nb = true ∧ vb = true ∧ c5 = true ∧ c6 = false) ∨ (c1 = true ∧ c2 = true ∧ nb = true ∧ vb = true ∧ c5 = true ∧ c6 = true ∧ yy ≠ []) ∨ (c1 = true ∧ c2 = true ∧ nb = true ∧ vb = true ∧ c5 = true ∧ c6 = true ∧ yy = []) := by
    by_cases hy : yy = [] <;> cases c1 <;> cases c2 <;> cases nb <;> cases vb <;> cases c5 <;> cases c6 <;> simp [hy]
  rcases hcases with rfl | ⟨rfl, rfl⟩ | ⟨rfl, rfl, rfl⟩ | ⟨rfl, rfl, rfl, rfl⟩ | ⟨rfl, rfl, rfl, rfl, rfl⟩ | ⟨rfl, rfl, rfl, rfl, rfl, rfl⟩ | ⟨rfl, rfl, rfl, rfl, rfl, rfl, hyy⟩ | ⟨rfl, rfl, rfl, rfl, rfl, rfl, rfl⟩
  · go_upto_region 10 with fail
    refine' Se.wp_region_pass (fun w w' => Below w.heap.size w w') (LowB w.heap.size) 26 (by kernel_rfl) (by kernel_rfl) (by kernel_rfl) (by kernel_rfl) (by kernel_rfl) (by kernel_rfl)
      (fun w => LowB.refl _ _) (fun h k => LowB.trans h k) [((fun w3 => w3.heap[w.heap.size]? = some (Obj.cells #[.string nm, .int .i64 nn, .int .i64 cp, .int .i64 mm, .slice pu x.1.length cu, .slice pv y.1.length cv, .bool f] 54 (0, 0)) ∧ Tx (w.heap.size + 1) w3 (.slice pu x.1.length cu) x.1 ∧ Tx (w.heap.size + 1) w3 (.slice pv y.1.length cv) y.1), 25)] [] ?_ ?_ (by simp) (fun vals => ?_)
    case refine'_2 =>
      intro e he
      obtain rfl := List.mem_singleton.1 he
      exact ⟨PREW.out.1, PREW.out.2.1.drew, PREW.out.2.2.drew⟩
    case refine'_3 =>
      intro e he w1' w2' k h
      obtain rfl := List.mem_singleton.1 he
      exact ⟨block_below h.1 k, h.2.1.below k, h.2.2.below k⟩
    rotate_left
    simp only [List.take_succ_cons, List.take_zero, List.drop_succ_cons, List.drop_zero]
    (apply Se.pas_x (fun _ _ h => LowB.of_below h) rfl; (focus rfl); (focus (intro w6 hR hD hP K hK; replace hK := Lib.hid hK; have hq := (hP _ (List.mem_cons_self ..) (.inr (by kernel_rfl))).1; have e0 := cell_of_block hq 0 _ rfl; have e1 := cell_of_block hq 1 _ rfl; have e2 := cell_of_block hq 2 _ rfl; have e3 := cell_of_block hq 3 _ rfl; have e4 := cell_of_block hq 4 _ rfl; have e5 := cell_of_block hq 5 _ rfl; have e6 := cell_of_block hq 6 _ rfl; clear hR hD hP hq; go_simp; exact hK.out _ (Below.refl _ _))); simp only [Act.put, List.setIfInBounds_toArray, List.set_cons_zero, List.set_cons_succ, Nat.reduceAdd, List.cons_append, List.nil_append])
    iterate 2 (apply Se.pas_x (fun _ _ h => LowB.of_below h) rfl; (focus rfl); (focus (intro w6 hR hD hP K hK; replace hK := Lib.hid hK; skip; clear hR hD hP; go_simp; exact hK.out _ (Below.refl _ _))); simp only [Act.put, List.setIfInBounds_toArray, List.set_cons_zero, List.set_cons_succ, Nat.reduceAdd, List.cons_append, List.nil_append])
    (apply Se.pas_g (e := undef) (fun _ _ h => LowB.of_below h); (focus rfl); (focus (intro w6 hR hD hP K hK; replace hK := Lib.hid hK; clear hR hD hP; go_simp; exact hK.out _ (Below.refl _ _))); simp only [Act.put, List.setIfInBounds_toArray, List.set_cons_zero, List.set_cons_succ, Nat.reduceAdd, List.cons_append, List.nil_append])
    iterate 2 (apply Se.pas_x (fun _ _ h => LowB.of_below h) rfl; (focus rfl); (focus (intro w6 hR hD hP K hK; replace hK := Lib.hid hK; skip; clear hR hD hP; go_simp; exact hK.out _ (Below.refl _ _))); simp only [Act.put, List.setIfInBounds_toArray, List.set_cons_zero, List.set_cons_succ, Nat.reduceAdd, List.cons_append, List.nil_append])
    (apply Se.pas_g (e := undef) (fun _ _ h => LowB.of_below h); (focus rfl); (focus (intro w6 hR hD hP K hK; replace hK := Lib.hid hK; clear hR hD hP; go_simp; exact hK.out _ (Below.refl _ _))); simp only [Act.put, List.setIfInBounds_toArray, List.set_cons_zero, List.set_cons_succ, Nat.reduceAdd, List.cons_append, List.nil_append])
    iterate 2 (apply Se.pas_x (fun _ _ h => LowB.of_below h) rfl; (focus rfl); (focus (intro w6 hR hD hP K hK; replace hK := Lib.hid hK; skip; clear hR hD hP; go_simp; exact hK.out _ (Below.refl _ _))); simp only [Act.put, List.setIfInBounds_toArray, List.set_cons_zero, List.set_cons_succ, Nat.reduceAdd, List.cons_append, List.nil_append])
    (apply Se.pas_g (e := undef) (fun _ _ h => LowB.of_below h); (focus rfl); (focus (intro w6 hR hD hP K hK; replace hK := Lib.hid hK; clear hR hD hP; go_simp; exact hK.out _ (Below.refl _ _))); simp only [Act.put, List.setIfInBounds_toArray, List.set_cons_zero, List.set_cons_succ, Nat.reduceAdd, List.cons_append, List.nil_append])
    iterate 2 (apply Se.pas_x (fun _ _ h => LowB.of_below h) rfl; (focus rfl); (focus (intro w6 hR hD hP K hK; replace hK := Lib.hid hK; skip; clear hR hD hP; go_simp; exact hK.out _ (Below.refl _ _))); simp only [Act.put, List.setIfInBounds_toArray, List.set_cons_zero, List.set_cons_succ, Nat.reduceAdd, List.cons_append, List.nil_append])
    (apply Se.pas_g (e := undef) (fun _ _ h => LowB.of_below h); (focus rfl); (focus (intro w6 hR hD hP K hK; replace hK := Lib.hid hK; clear hR hD hP; go_simp; exact hK.out _ (Below.refl _ _))); simp only [Act.put, List.setIfInBounds_toArray, List.set_cons_zero, List.set_cons_succ, Nat.reduceAdd, List.cons_append, List.nil_append])
    iterate 2 (apply Se.pas_x (fun _ _ h => LowB.of_below h) rfl; (focus rfl); (focus (intro w6 hR hD hP K hK; replace hK := Lib.hid hK; skip; clear hR hD hP; go_simp; exact hK.out _ (Below.refl _ _))); simp only [Act.put, List.setIfInBounds_toArray, List.set_cons_zero, List.set_cons_succ, Nat.reduceAdd, List.cons_append, List.nil_append])
    (apply Se.pas_g (e := undef) (fun _ _ h => LowB.of_below h); (focus rfl); (focus (intro w6 hR hD hP K hK; replace hK := Lib.hid hK; clear hR hD hP; go_simp; exact hK.out _ (Below.refl _ _))); simp only [Act.put, List.setIfInBounds_toArray, List.set_cons_zero, List.set_cons_succ, Nat.reduceAdd, List.cons_append, List.nil_append])
    iterate 2 (apply Se.pas_x (fun _ _ h => LowB.of_below h) rfl; (focus rfl); (focus (intro w6 hR hD hP K hK; replace hK := Lib.hid hK; skip; clear hR hD hP; go_simp; exact hK.out _ (Below.refl _ _))); simp only [Act.put, List.setIfInBounds_toArray, List.set_cons_zero, List.set_cons_succ, Nat.reduceAdd, List.cons_append, List.nil_append])
    iterate 2 (apply Se.pas_g (e := undef) (fun _ _ h => LowB.of_below h); (focus rfl); (focus (intro w6 hR hD hP K hK; replace hK := Lib.hid hK; clear hR hD hP; go_simp; exact hK.out _ (Below.refl _ _))); simp only [Act.put, List.setIfInBounds_toArray, List.set_cons_zero, List.set_cons_succ, Nat.reduceAdd, List.cons_append, List.nil_append])
    iterate 2 (apply Se.pas_x (fun _ _ h => LowB.of_below h) rfl; (focus rfl); (focus (intro w6 hR hD hP K hK; replace hK := Lib.hid hK; skip; clear hR hD hP; go_simp; exact hK.out _ (Below.refl _ _))); simp only [Act.put, List.setIfInBounds_toArray, List.set_cons_zero, List.set_cons_succ, Nat.reduceAdd, List.cons_append, List.nil_append])
    iterate 2 (apply Se.pas_g (e := undef) (fun _ _ h => LowB.of_below h); (focus rfl); (focus (intro w6 hR hD hP K hK; replace hK := Lib.hid hK; clear hR hD hP; go_simp; exact hK.out _ (Below.refl _ _))); simp only [Act.put, List.setIfInBounds_toArray, List.set_cons_zero, List.set_cons_succ, Nat.reduceAdd, List.cons_append, List.nil_append])
    (apply Se.pas_x (fun _ _ h => LowB.of_below h) rfl; (focus rfl); (focus (intro w6 hR hD hP K hK; replace hK := Lib.hid hK; skip; clear hR hD hP; go_simp; exact hK.out _ (Below.refl _ _))); simp only [Act.put, List.setIfInBounds_toArray, List.set_cons_zero, List.set_cons_succ, Nat.reduceAdd, List.cons_append, List.nil_append])
    (apply Se.pas_s (LowB w.heap.size) (fun _ w3 => w3.heap[w.heap.size]? = some (Obj.cells #[.string nm, .int .i64 nn, .int .i64 cp, .int .i64 mm, .slice pu x.1.length cu, .slice pv y.1.length cv, .bool f] 54 (0, 0)) ∧ Tx (w.heap.size + 1) w3 (.slice pu x.1.length cu) x.1 ∧ Tx (w.heap.size + 1) w3 (.slice pv y.1.length cv) y.1) (fun _ _ h => h) rfl (fun v w1 w2 h k => ⟨block_below h.1 k, h.2.1.below k, h.2.2.below k⟩); (focus rfl); (focus (intro w6 hR hD hP K hK; replace hK := Lib.hid hK; have hq := hP _ (List.mem_cons_self ..) (.inl rfl); have g0 := cell_of_block hq.1 0 _ rfl; have g1 := cell_of_block hq.1 1 _ rfl; have g2 := cell_of_block hq.1 2 _ rfl; have g3 := cell_of_block hq.1 3 _ rfl; have g4 := cell_of_block hq.1 4 _ rfl; have g5 := cell_of_block hq.1 5 _ rfl; have g6 := cell_of_block hq.1 6 _ rfl; have ff := fun j => free_of_block hq.1 j; have HQ := Lib.hid hq; clear hR hD hP hq; go_simp; exact hK.out undef _ (LowB.of_sets (b := w.heap.size) (fun _ => Nat.le_refl _) [.string nm, .int .i64 nn, .int .i64 cp, .int .i64 mm, .slice pu x.1.length cu, .slice pv y.1.length cv, .bool f] 0 w6) ⟨sets7 (.string nm) (.int .i64 nn) (.int .i64 cp) (.int .i64 mm) (.slice pu x.1.length cu) (.slice pv y.1.length cv) (.bool f) HQ.out.1, HQ.out.2.1.gb (Gb.sets' w.heap.size [.string nm, .int .i64 nn, .int .i64 cp, .int .i64 mm, .slice pu x.1.length cu, .slice pv y.1.length cv, .bool f] 0 w6) (Nat.lt_succ_self _), HQ.out.2.2.gb (Gb.sets' w.heap.size [.string nm, .int .i64 nn, .int .i64 cp, .int .i64 mm, .slice pu x.1.length cu, .slice pv y.1.length cv, .bool f] 0 w6) (Nat.lt_succ_self _)⟩)); simp only [Act.put, List.setIfInBounds_toArray, List.set_cons_zero, List.set_cons_succ, Nat.reduceAdd, List.cons_append, List.nil_append])
    refine Se.pas_ends (by simp [Se.AllK]) (by simp [Se.AllK]) fun w6 hR hp _ => ?_
    have h25 : (fun w3 => w3.heap[w.heap.size]? = some (Obj.cells #[.string nm, .int .i64 nn, .int .i64 cp, .int .i64 mm, .slice pu x.1.length cu, .slice pv y.1.length cv, .bool f] 54 (0, 0)) ∧ Tx (w.heap.size + 1) w3 (.slice pu x.1.length cu) x.1 ∧ Tx (w.heap.size + 1) w3 (.slice pv y.1.length cv) y.1) w6 := hp 25 (by simp)
    have H25 := Lib.hid h25
    have HB6 := Lib.hid (HBW.out.drew.trans (hR HBW.out.size))
    clear hp h25 hR
    go_wp2
    have k0 := cell_of_block H25.out.1 0 _ rfl
    have k1 := cell_of_block H25.out.1 1 _ rfl
    have k2 := cell_of_block H25.out.1 2 _ rfl
    have k3 := cell_of_block H25.out.1 3 _ rfl
    have k4 := cell_of_block H25.out.1 4 _ rfl
    have k5 := cell_of_block H25.out.1 5 _ rfl
    have k6 := cell_of_block H25.out.1 6 _ rfl
    refine bodyPost_ret (v := .tuple #[.agg #[.string nm, .int .i64 nn, .int .i64 cp, .int .i64 mm, .slice pu x.1.length cu, .slice pv y.1.length cv, .bool f], .bool (false)]) (by simp [results, Tryz.results66, go_sem, k0, k1, k2, k3, k4, k5, k6]) rfl ⟨[.string nm, .int .i64 nn, .int .i64 cp, .int .i64 mm, .slice pu x.1.length cu, .slice pv y.1.length cv, .bool f], ?_, ?_, HB6.out⟩
    · have : podB s = (false) := by rw [HPB.out, HC1.out, HC2.out, HC5.out, HC6.out]; simp
      rw [this]
    · rw [HPX.out]
      exact ⟨.slice pu x.1.length cu, .slice pv y.1.length cv, by rw [← HNM.out], H25.out.2.1.base (Nat.le_succ _), H25.out.2.2.base (Nat.le_succ _)⟩
  · go_upto_region 10 with fail
    refine' Se.wp_region_pass (fun w w' => Below w.heap.size w w') (LowB w.heap.size) 26 (by kernel_rfl) (by kernel_rfl) (by kernel_rfl) (by kernel_rfl) (by kernel_rfl) (by kernel_rfl)
      (fun w => LowB.refl _ _) (fun h k => LowB.trans h k) [((fun w3 => w3.heap[w.heap.size]? = some (Obj.cells #[.string nm, .int .i64 nn, .int .i64 cp, .int .i64 mm, .slice pu x.1.length cu, .slice pv y.1.length cv, .bool f] 54 (0, 0)) ∧ Tx (w.heap.size + 1) w3 (.slice pu x.1.length cu) x.1 ∧ Tx (w.heap.size + 1) w3 (.slice pv y.1.length cv) y.1), 25)] [] ?_ ?_ (by simp) (fun vals => ?_)
    case refine'_2 =>
      intro e he
      obtain rfl := List.mem_singleton.1 he
      exact ⟨PREW.out.1, PREW.out.2.1.drew, PREW.out.2.2.drew⟩
    case refine'_3 =>
      intro e he w1' w2' k h
      obtain rfl := List.mem_singleton.1 he
      exact ⟨block_below h.1 k, h.2.1.below k, h.2.2.below k⟩
    rotate_left
    simp only [List.take_succ_cons, List.take_zero, List.drop_succ_cons, List.drop_zero]
    (apply Se.pas_x (fun _ _ h => LowB.of_below h) rfl; (focus rfl); (focus (intro w6 hR hD hP K hK; replace hK := Lib.hid hK; have hq := (hP _ (List.mem_cons_self ..) (.inr (by kernel_rfl))).1; have e0 := cell_of_block hq 0 _ rfl; have e1 := cell_of_block hq 1 _ rfl; have e2 := cell_of_block hq 2 _ rfl; have e3 := cell_of_block hq 3 _ rfl; have e4 := cell_of_block hq 4 _ rfl; have e5 := cell_of_block hq 5 _ rfl; have e6 := cell_of_block hq 6 _ rfl; clear hR hD hP hq; go_simp; exact hK.out _ (Below.refl _ _))); simp only [Act.put, List.setIfInBounds_toArray, List.set_cons_zero, List.set_cons_succ, Nat.reduceAdd, List.cons_append, List.nil_append])
    iterate 2 (apply Se.pas_x (fun _ _ h => LowB.of_below h) rfl; (focus rfl); (focus (intro w6 hR hD hP K hK; replace hK := Lib.hid hK; skip; clear hR hD hP; go_simp; exact hK.out _ (Below.refl _ _))); simp only [Act.put, List.setIfInBounds_toArray, List.set_cons_zero, List.set_cons_succ, Nat.reduceAdd, List.cons_append, List.nil_append])
    (apply Se.pas_g (fun _ _ h => LowB.of_below h); (focus rfl); (focus (intro w6 hR hD hP K hK; replace hK := Lib.hid hK; skip; clear hR hD hP; go_simp; exact hK.out _ (Below.refl _ _))); simp only [Act.put, List.setIfInBounds_toArray, List.set_cons_zero, List.set_cons_succ, Nat.reduceAdd, List.cons_append, List.nil_append])
    iterate 2 (apply Se.pas_x (fun _ _ h => LowB.of_below h) rfl; (focus rfl); (focus (intro w6 hR hD hP K hK; replace hK := Lib.hid hK; skip; clear hR hD hP; go_simp; exact hK.out _ (Below.refl _ _))); simp only [Act.put, List.setIfInBounds_toArray, List.set_cons_zero, List.set_cons_succ, Nat.reduceAdd, List.cons_append, List.nil_append])
    (apply Se.pas_g (e := undef) (fun _ _ h => LowB.of_below h); (focus rfl); (focus (intro w6 hR hD hP K hK; replace hK := Lib.hid hK; clear hR hD hP; go_simp; exact hK.out _ (Below.refl _ _))); simp only [Act.put, List.setIfInBounds_toArray, List.set_cons_zero, List.set_cons_succ, Nat.reduceAdd, List.cons_append, List.nil_append])
    iterate 2 (apply Se.pas_x (fun _ _ h => LowB.of_below h) rfl; (focus rfl); (focus (intro w6 hR hD hP K hK; replace hK := Lib.hid hK; skip; clear hR hD hP; go_simp; exact hK.out _ (Below.refl _ _))); simp only [Act.put, List.setIfInBounds_toArray, List.set_cons_zero, List.set_cons_succ, Nat.reduceAdd, List.cons_append, List.nil_append])
    (apply Se.pas_g (e := undef) (fun _ _ h => LowB.of_below h); (focus rfl); (focus (intro w6 hR hD hP K hK; replace hK := Lib.hid hK; clear hR hD hP; go_simp; exact hK.out _ (Below.refl _ _))); simp only [Act.put, List.setIfInBounds_toArray, List.set_cons_zero, List.set_cons_succ, Nat.reduceAdd, List.cons_append, List.nil_append])
    iterate 2 (apply Se.pas_x (fun _ _ h => LowB.of_below h) rfl; (focus rfl); (focus (intro w6 hR hD hP K hK; replace hK := Lib.hid hK; skip; clear hR hD hP; go_simp; exact hK.out _ (Below.refl _ _))); simp only [Act.put, List.setIfInBounds_toArray, List.set_cons_zero, List.set_cons_succ, Nat.reduceAdd, List.cons_append, List.nil_append])
    (apply Se.pas_g (e := undef) (fun _ _ h => LowB.of_below h); (focus rfl); (focus (intro w6 hR hD hP K hK; replace hK := Lib.hid hK; clear hR hD hP; go_simp; exact hK.out _ (Below.refl _ _))); simp only [Act.put, List.setIfInBounds_toArray, List.set_cons_zero, List.set_cons_succ, Nat.reduceAdd, List.cons_append, List.nil_append])
    iterate 2 (apply Se.pas_x (fun _ _ h => LowB.of_below h) rfl; (focus rfl); (focus (intro w6 hR hD hP K hK; replace hK := Lib.hid hK; skip; clear hR hD hP; go_simp; exact hK.out _ (Below.refl _ _))); simp only [Act.put, List.setIfInBounds_toArray, List.set_cons_zero, List.set_cons_succ, Nat.reduceAdd, List.cons_append, List.nil_append])
    (apply Se.pas_g (e := undef) (fun _ _ h => LowB.of_below h); (focus rfl); (focus (intro w6 hR hD hP K hK; replace hK := Lib.hid hK; clear hR hD hP; go_simp; exact hK.out _ (Below.refl _ _))); simp only [Act.put, List.setIfInBounds_toArray, List.set_cons_zero, List.set_cons_succ, Nat.reduceAdd, List.cons_append, List.nil_append])
    iterate 2 (apply Se.pas_x (fun _ _ h => LowB.of_below h) rfl; (focus rfl); (focus (intro w6 hR hD hP K hK; replace hK := Lib.hid hK; skip; clear hR hD hP; go_simp; exact hK.out _ (Below.refl _ _))); simp only [Act.put, List.setIfInBounds_toArray, List.set_cons_zero, List.set_cons_succ, Nat.reduceAdd, List.cons_append, List.nil_append])
    iterate 2 (apply Se.pas_g (e := undef) (fun _ _ h => LowB.of_below h); (focus rfl); (focus (intro w6 hR hD hP K hK; replace hK := Lib.hid hK; clear hR hD hP; go_simp; exact hK.out _ (Below.refl _ _))); simp only [Act.put, List.setIfInBounds_toArray, List.set_cons_zero, List.set_cons_succ, Nat.reduceAdd, List.cons_append, List.nil_append])
    iterate 2 (apply Se.pas_x (fun _ _ h => LowB.of_below h) rfl; (focus rfl); (focus (intro w6 hR hD hP K hK; replace hK := Lib.hid hK; skip; clear hR hD hP; go_simp; exact hK.out _ (Below.refl _ _))); simp only [Act.put, List.setIfInBounds_toArray, List.set_cons_zero, List.set_cons_succ, Nat.reduceAdd, List.cons_append, List.nil_append])
    iterate 2 (apply Se.pas_g (e := undef) (fun _ _ h => LowB.of_below h); (focus rfl); (focus (intro w6 hR hD hP K hK; replace hK := Lib.hid hK; clear hR hD hP; go_simp; exact hK.out _ (Below.refl _ _))); simp only [Act.put, List.setIfInBounds_toArray, List.set_cons_zero, List.set_cons_succ, Nat.reduceAdd, List.cons_append, List.nil_append])
    (apply Se.pas_x (fun _ _ h => LowB.of_below h) rfl; (focus rfl); (focus (intro w6 hR hD hP K hK; replace hK := Lib.hid hK; skip; clear hR hD hP; go_simp; exact hK.out _ (Below.refl _ _))); simp only [Act.put, List.setIfInBounds_toArray, List.set_cons_zero, List.set_cons_succ, Nat.reduceAdd, List.cons_append, List.nil_append])
    (apply Se.pas_s (LowB w.heap.size) (fun _ w3 => w3.heap[w.heap.size]? = some (Obj.cells #[.string nm, .int .i64 nn, .int .i64 cp, .int .i64 mm, .slice pu x.1.length cu, .slice pv y.1.length cv, .bool f] 54 (0, 0)) ∧ Tx (w.heap.size + 1) w3 (.slice pu x.1.length cu) x.1 ∧ Tx (w.heap.size + 1) w3 (.slice pv y.1.length cv) y.1) (fun _ _ h => h) rfl (fun v w1 w2 h k => ⟨block_below h.1 k, h.2.1.below k, h.2.2.below k⟩); (focus rfl); (focus (intro w6 hR hD hP K hK; replace hK := Lib.hid hK; have hq := hP _ (List.mem_cons_self ..) (.inl rfl); have g0 := cell_of_block hq.1 0 _ rfl; have g1 := cell_of_block hq.1 1 _ rfl; have g2 := cell_of_block hq.1 2 _ rfl; have g3 := cell_of_block hq.1 3 _ rfl; have g4 := cell_of_block hq.1 4 _ rfl; have g5 := cell_of_block hq.1 5 _ rfl; have g6 := cell_of_block hq.1 6 _ rfl; have ff := fun j => free_of_block hq.1 j; have HQ := Lib.hid hq; clear hR hD hP hq; go_simp; exact hK.out undef _ (LowB.of_sets (b := w.heap.size) (fun _ => Nat.le_refl _) [.string nm, .int .i64 nn, .int .i64 cp, .int .i64 mm, .slice pu x.1.length cu, .slice pv y.1.length cv, .bool f] 0 w6) ⟨sets7 (.string nm) (.int .i64 nn) (.int .i64 cp) (.int .i64 mm) (.slice pu x.1.length cu) (.slice pv y.1.length cv) (.bool f) HQ.out.1, HQ.out.2.1.gb (Gb.sets' w.heap.size [.string nm, .int .i64 nn, .int .i64 cp, .int .i64 mm, .slice pu x.1.length cu, .slice pv y.1.length cv, .bool f] 0 w6) (Nat.lt_succ_self _), HQ.out.2.2.gb (Gb.sets' w.heap.size [.string nm, .int .i64 nn, .int .i64 cp, .int .i64 mm, .slice pu x.1.length cu, .slice pv y.1.length cv, .bool f] 0 w6) (Nat.lt_succ_self _)⟩)); simp only [Act.put, List.setIfInBounds_toArray, List.set_cons_zero, List.set_cons_succ, Nat.reduceAdd, List.cons_append, List.nil_append])
    refine Se.pas_ends (by simp [Se.AllK]) (by simp [Se.AllK]) fun w6 hR hp _ => ?_
    have h25 : (fun w3 => w3.heap[w.heap.size]? = some (Obj.cells #[.string nm, .int .i64 nn, .int .i64 cp, .int .i64 mm, .slice pu x.1.length cu, .slice pv y.1.length cv, .bool f] 54 (0, 0)) ∧ Tx (w.heap.size + 1) w3 (.slice pu x.1.length cu) x.1 ∧ Tx (w.heap.size + 1) w3 (.slice pv y.1.length cv) y.1) w6 := hp 25 (by simp)
    have H25 := Lib.hid h25
    have HB6 := Lib.hid (HBW.out.drew.trans (hR HBW.out.size))
    clear hp h25 hR
    go_wp2
    have k0 := cell_of_block H25.out.1 0 _ rfl
    have k1 := cell_of_block H25.out.1 1 _ rfl
    have k2 := cell_of_block H25.out.1 2 _ rfl
    have k3 := cell_of_block H25.out.1 3 _ rfl
    have k4 := cell_of_block H25.out.1 4 _ rfl
    have k5 := cell_of_block H25.out.1 5 _ rfl
    have k6 := cell_of_block H25.out.1 6 _ rfl
    refine bodyPost_ret (v := .tuple #[.agg #[.string nm, .int .i64 nn, .int .i64 cp, .int .i64 mm, .slice pu x.1.length cu, .slice pv y.1.length cv, .bool f], .bool (false)]) (by simp [results, Tryz.results66, go_sem, k0, k1, k2, k3, k4, k5, k6]) rfl ⟨[.string nm, .int .i64 nn, .int .i64 cp, .int .i64 mm, .slice pu x.1.length cu, .slice pv y.1.length cv, .bool f], ?_, ?_, HB6.out⟩
    · have : podB s = (false) := by rw [HPB.out, HC1.out, HC2.out, HC5.out, HC6.out]; simp
      rw [this]
    · rw [HPX.out]
      exact ⟨.slice pu x.1.length cu, .slice pv y.1.length cv, by rw [← HNM.out], H25.out.2.1.base (Nat.le_succ _), H25.out.2.2.base (Nat.le_succ _)⟩
  · go_upto_region 10 with fail
    refine' Se.wp_region_pass (fun w w' => Below w.heap.size w w') (LowB w.heap.size) 26 (by kernel_rfl) (by kernel_rfl) (by kernel_rfl) (by kernel_rfl) (by kernel_rfl) (by kernel_rfl)
      (fun w => LowB.refl _ _) (fun h k => LowB.trans h k) [((fun w3 => w3.heap[w.heap.size]? = some (Obj.cells #[.string nm, .int .i64 nn, .int .i64 cp, .int .i64 mm, .slice pu x.1.length cu, .slice pv y.1.length cv, .bool f] 54 (0, 0)) ∧ Tx (w.heap.size + 1) w3 (.slice pu x.1.length cu) x.1 ∧ Tx (w.heap.size + 1) w3 (.slice pv y.1.length cv) y.1), 25)] [] ?_ ?_ (by simp) (fun vals => ?_)
    case refine'_2 =>
      intro e he
      obtain rfl := List.mem_singleton.1 he
      exact ⟨PREW.out.1, PREW.out.2.1.drew, PREW.out.2.2.drew⟩
    case refine'_3 =>
      intro e he w1' w2' k h
      obtain rfl := List.mem_singleton.1 he
      exact ⟨block_below h.1 k, h.2.1.below k, h.2.2.below k⟩
    rotate_left
    simp only [List.take_succ_cons, List.take_zero, List.drop_succ_cons, List.drop_zero]
    (apply Se.pas_x (fun _ _ h => LowB.of_below h) rfl; (focus rfl); (focus (intro w6 hR hD hP K hK; replace hK := Lib.hid hK; have hq := (hP _ (List.mem_cons_self ..) (.inr (by kernel_rfl))).1; have e0 := cell_of_block hq 0 _ rfl; have e1 := cell_of_block hq 1 _ rfl; have e2 := cell_of_block hq 2 _ rfl; have e3 := cell_of_block hq 3 _ rfl; have e4 := cell_of_block hq 4 _ rfl; have e5 := cell_of_block hq 5 _ rfl; have e6 := cell_of_block hq 6 _ rfl; clear hR hD hP hq; go_simp; exact hK.out _ (Below.refl _ _))); simp only [Act.put, List.setIfInBounds_toArray, List.set_cons_zero, List.set_cons_succ, Nat.reduceAdd, List.cons_append, List.nil_append])
    iterate 2 (apply Se.pas_x (fun _ _ h => LowB.of_below h) rfl; (focus rfl); (focus (intro w6 hR hD hP K hK; replace hK := Lib.hid hK; skip; clear hR hD hP; go_simp; exact hK.out _ (Below.refl _ _))); simp only [Act.put, List.setIfInBounds_toArray, List.set_cons_zero, List.set_cons_succ, Nat.reduceAdd, List.cons_append, List.nil_append])
    (apply Se.pas_g (fun _ _ h => LowB.of_below h); (focus rfl); (focus (intro w6 hR hD hP K hK; replace hK := Lib.hid hK; skip; clear hR hD hP; go_simp; exact hK.out _ (Below.refl _ _))); simp only [Act.put, List.setIfInBounds_toArray, List.set_cons_zero, List.set_cons_succ, Nat.reduceAdd, List.cons_append, List.nil_append])
    iterate 2 (apply Se.pas_x (fun _ _ h => LowB.of_below h) rfl; (focus rfl); (focus (intro w6 hR hD hP K hK; replace hK := Lib.hid hK; skip; clear hR hD hP; go_simp; exact hK.out _ (Below.refl _ _))); simp only [Act.put, List.setIfInBounds_toArray, List.set_cons_zero, List.set_cons_succ, Nat.reduceAdd, List.cons_append, List.nil_append])
    (apply Se.pas_g (fun _ _ h => LowB.of_below h); (focus rfl); (focus (intro w6 hR hD hP K hK; replace hK := Lib.hid hK; skip; clear hR hD hP; go_simp; exact hK.out _ (Below.refl _ _))); simp only [Act.put, List.setIfInBounds_toArray, List.set_cons_zero, List.set_cons_succ, Nat.reduceAdd, List.cons_append, List.nil_append])
    iterate 2 (apply Se.pas_x (fun _ _ h => LowB.of_below h) rfl; (focus rfl); (focus (intro w6 hR hD hP K hK; replace hK := Lib.hid hK; skip; clear hR hD hP; go_simp; exact hK.out _ (Below.refl _ _))); simp only [Act.put, List.setIfInBounds_toArray, List.set_cons_zero, List.set_cons_succ, Nat.reduceAdd, List.cons_append, List.nil_append])
    (apply Se.pas_g (e := undef) (fun _ _ h => LowB.of_below h); (focus rfl); (focus (intro w6 hR hD hP K hK; replace hK := Lib.hid hK; clear hR hD hP; go_simp; exact hK.out _ (Below.refl _ _))); simp only [Act.put, List.setIfInBounds_toArray, List.set_cons_zero, List.set_cons_succ, Nat.reduceAdd, List.cons_append, List.nil_append])
    iterate 2 (apply Se.pas_x (fun _ _ h => LowB.of_below h) rfl; (focus rfl); (focus (intro w6 hR hD hP K hK; replace hK := Lib.hid hK; skip; clear hR hD hP; go_simp; exact hK.out _ (Below.refl _ _))); simp only [Act.put, List.setIfInBounds_toArray, List.set_cons_zero, List.set_cons_succ, Nat.reduceAdd, List.cons_append, List.nil_append])
    (apply Se.pas_g (e := undef) (fun _ _ h => LowB.of_below h); (focus rfl); (focus (intro w6 hR hD hP K hK; replace hK := Lib.hid hK; clear hR hD hP; go_simp; exact hK.out _ (Below.refl _ _))); simp only [Act.put, List.setIfInBounds_toArray, List.set_cons_zero, List.set_cons_succ, Nat.reduceAdd, List.cons_append, List.nil_append])
    iterate 2 (apply Se.pas_x (fun _ _ h => LowB.of_below h) rfl; (focus rfl); (focus (intro w6 hR hD hP K hK; replace hK := Lib.hid hK; skip; clear hR hD hP; go_simp; exact hK.out _ (Below.refl _ _))); simp only [Act.put, List.setIfInBounds_toArray, List.set_cons_zero, List.set_cons_succ, Nat.reduceAdd, List.cons_append, List.nil_append])
    (apply Se.pas_g (e := undef) (fun _ _ h => LowB.of_below h); (focus rfl); (focus (intro w6 hR hD hP K hK; replace hK := Lib.hid hK; clear hR hD hP; go_simp; exact hK.out _ (Below.refl _ _))); simp only [Act.put, List.setIfInBounds_toArray, List.set_cons_zero, List.set_cons_succ, Nat.reduceAdd, List.cons_append, List.nil_append])
    iterate 2 (apply Se.pas_x (fun _ _ h => LowB.of_below h) rfl; (focus rfl); (focus (intro w6 hR hD hP K hK; replace hK := Lib.hid hK; skip; clear hR hD hP; go_simp; exact hK.out _ (Below.refl _ _))); simp only [Act.put, List.setIfInBounds_toArray, List.set_cons_zero, List.set_cons_succ, Nat.reduceAdd, List.cons_append, List.nil_append])
    iterate 2 (apply Se.pas_g (e := undef) (fun _ _ h => LowB.of_below h); (focus rfl); (focus (intro w6 hR hD hP K hK; replace hK := Lib.hid hK; clear hR hD hP; go_simp; exact hK.out _ (Below.refl _ _))); simp only [Act.put, List.setIfInBounds_toArray, List.set_cons_zero, List.set_cons_succ, Nat.reduceAdd, List.cons_append, List.nil_append])
    iterate 2 (apply Se.pas_x (fun _ _ h => LowB.of_below h) rfl; (focus rfl); (focus (intro w6 hR hD hP K hK; replace hK := Lib.hid hK; skip; clear hR hD hP; go_simp; exact hK.out _ (Below.refl _ _))); simp only [Act.put, List.setIfInBounds_toArray, List.set_cons_zero, List.set_cons_succ, Nat.reduceAdd, List.cons_append, List.nil_append])
    iterate 2 (apply Se.pas_g (e := undef) (fun _ _ h => LowB.of_below h); (focus rfl); (focus (intro w6 hR hD hP K hK; replace hK := Lib.hid hK; clear hR hD hP; go_simp; exact hK.out _ (Below.refl _ _))); simp only [Act.put, List.setIfInBounds_toArray, List.set_cons_zero, List.set_cons_succ, Nat.reduceAdd, List.cons_append, List.nil_append])
    (apply Se.pas_x (fun _ _ h => LowB.of_below h) rfl; (focus rfl); (focus (intro w6 hR hD hP K hK; replace hK := Lib.hid hK; skip; clear hR hD hP; go_simp; exact hK.out _ (Below.refl _ _))); simp only [Act.put, List.setIfInBounds_toArray, List.set_cons_zero, List.set_cons_succ, Nat.reduceAdd, List.cons_append, List.nil_append])
    (apply Se.pas_s (LowB w.heap.size) (fun _ w3 => w3.heap[w.heap.size]? = some (Obj.cells #[.string nm, .int .i64 nn, .int .i64 cp, .int .i64 mm, .slice pu x.1.length cu, .slice pv y.1.length cv, .bool f] 54 (0, 0)) ∧ Tx (w.heap.size + 1) w3 (.slice pu x.1.length cu) x.1 ∧ Tx (w.heap.size + 1) w3 (.slice pv y.1.length cv) y.1) (fun _ _ h => h) rfl (fun v w1 w2 h k => ⟨block_below h.1 k, h.2.1.below k, h.2.2.below k⟩); (focus rfl); (focus (intro w6 hR hD hP K hK; replace hK := Lib.hid hK; have hq := hP _ (List.mem_cons_self ..) (.inl rfl); have g0 := cell_of_block hq.1 0 _ rfl; have g1 := cell_of_block hq.1 1 _ rfl; have g2 := cell_of_block hq.1 2 _ rfl; have g3 := cell_of_block hq.1 3 _ rfl; have g4 := cell_of_block hq.1 4 _ rfl; have g5 := cell_of_block hq.1 5 _ rfl; have g6 := cell_of_block hq.1 6 _ rfl; have ff := fun j => free_of_block hq.1 j; have HQ := Lib.hid hq; clear hR hD hP hq; go_simp; exact hK.out undef _ (LowB.of_sets (b := w.heap.size) (fun _ => Nat.le_refl _) [.string nm, .int .i64 nn, .int .i64 cp, .int .i64 mm, .slice pu x.1.length cu, .slice pv y.1.length cv, .bool f] 0 w6) ⟨sets7 (.string nm) (.int .i64 nn) (.int .i64 cp) (.int .i64 mm) (.slice pu x.1.length cu) (.slice pv y.1.length cv) (.bool f) HQ.out.1, HQ.out.2.1.gb (Gb.sets' w.heap.size [.string nm, .int .i64 nn, .int .i64 cp, .int .i64 mm, .slice pu x.1.length cu, .slice pv y.1.length cv, .bool f] 0 w6) (Nat.lt_succ_self _), HQ.out.2.2.gb (Gb.sets' w.heap.size [.string nm, .int .i64 nn, .int .i64 cp, .int .i64 mm, .slice pu x.1.length cu, .slice pv y.1.length cv, .bool f] 0 w6) (Nat.lt_succ_self _)⟩)); simp only [Act.put, List.setIfInBounds_toArray, List.set_cons_zero, List.set_cons_succ, Nat.reduceAdd, List.cons_append, List.nil_append])
    refine Se.pas_ends (by simp [Se.AllK]) (by simp [Se.AllK]) fun w6 hR hp _ => ?_
    have h25 : (fun w3 => w3.heap[w.heap.size]? = some (Obj.cells #[.string nm, .int .i64 nn, .int .i64 cp, .int .i64 mm, .slice pu x.1.length cu, .slice pv y.1.length cv, .bool f] 54 (0, 0)) ∧ Tx (w.heap.size + 1) w3 (.slice pu x.1.length cu) x.1 ∧ Tx (w.heap.size + 1) w3 (.slice pv y.1.length cv) y.1) w6 := hp 25 (by simp)
    have H25 := Lib.hid h25
    have HB6 := Lib.hid (HBW.out.drew.trans (hR HBW.out.size))
    clear hp h25 hR
    go_wp2
    have k0 := cell_of_block H25.out.1 0 _ rfl
    have k1 := cell_of_block H25.out.1 1 _ rfl
    have k2 := cell_of_block H25.out.1 2 _ rfl
    have k3 := cell_of_block H25.out.1 3 _ rfl
    have k4 := cell_of_block H25.out.1 4 _ rfl
    have k5 := cell_of_block H25.out.1 5 _ rfl
    have k6 := cell_of_block H25.out.1 6 _ rfl
    refine bodyPost_ret (v := .tuple #[.agg #[.string nm, .int .i64 nn, .int .i64 cp, .int .i64 mm, .slice pu x.1.length cu, .slice pv y.1.length cv, .bool f], .bool (false)]) (by simp [results, Tryz.results66, go_sem, k0, k1, k2, k3, k4, k5, k6]) rfl ⟨[.string nm, .int .i64 nn, .int .i64 cp, .int .i64 mm, .slice pu x.1.length cu, .slice pv y.1.length cv, .bool f], ?_, ?_, HB6.out⟩
    · have : podB s = (false) := by rw [HPB.out, HC1.out, HC2.out, HC5.out, HC6.out]; simp
      rw [this]
    · rw [HPX.out]
      exact ⟨.slice pu x.1.length cu, .slice pv y.1.length cv, by rw [← HNM.out], H25.out.2.1.base (Nat.le_succ _), H25.out.2.2.base (Nat.le_succ _)⟩
  · go_upto_region 10 with fail
    refine' Se.wp_region_pass (fun w w' => Below w.heap.size w w') (LowB w.heap.size) 26 (by kernel_rfl) (by kernel_rfl) (by kernel_rfl) (by kernel_rfl) (by kernel_rfl) (by kernel_rfl)
      (fun w => LowB.refl _ _) (fun h k => LowB.trans h k) [((fun w3 => w3.heap[w.heap.size]? = some (Obj.cells #[.string nm, .int .i64 nn, .int .i64 cp, .int .i64 mm, .slice pu x.1.length cu, .slice pv y.1.length cv, .bool f] 54 (0, 0)) ∧ Tx (w.heap.size + 1) w3 (.slice pu x.1.length cu) x.1 ∧ Tx (w.heap.size + 1) w3 (.slice pv y.1.length cv) y.1), 25)] [] ?_ ?_ (by simp) (fun vals => ?_)
    case refine'_2 =>
      intro e he
      obtain rfl := List.mem_singleton.1 he
      exact ⟨PREW.out.1, PREW.out.2.1.drew, PREW.out.2.2.drew⟩
    case refine'_3 =>
      intro e he w1' w2' k h
      obtain rfl := List.mem_singleton.1 he
      exact ⟨block_below h.1 k, h.2.1.below k, h.2.2.below k⟩
    rotate_left
    simp only [List.take_succ_cons, List.take_zero, List.drop_succ_cons, List.drop_zero]
    (apply Se.pas_x (fun _ _ h => LowB.of_below h) rfl; (focus rfl); (focus (intro w6 hR hD hP K hK; replace hK := Lib.hid hK; have hq := (hP _ (List.mem_cons_self ..) (.inr (by kernel_rfl))).1; have e0 := cell_of_block hq 0 _ rfl; have e1 := cell_of_block hq 1 _ rfl; have e2 := cell_of_block hq 2 _ rfl; have e3 := cell_of_block hq 3 _ rfl; have e4 := cell_of_block hq 4 _ rfl; have e5 := cell_of_block hq 5 _ rfl; have e6 := cell_of_block hq 6 _ rfl; clear hR hD hP hq; go_simp; exact hK.out _ (Below.refl _ _))); simp only [Act.put, List.setIfInBounds_toArray, List.set_cons_zero, List.set_cons_succ, Nat.reduceAdd, List.cons_append, List.nil_append])
    iterate 2 (apply Se.pas_x (fun _ _ h => LowB.of_below h) rfl; (focus rfl); (focus (intro w6 hR hD hP K hK; replace hK := Lib.hid hK; skip; clear hR hD hP; go_simp; exact hK.out _ (Below.refl _ _))); simp only [Act.put, List.setIfInBounds_toArray, List.set_cons_zero, List.set_cons_succ, Nat.reduceAdd, List.cons_append, List.nil_append])
    (apply Se.pas_g (fun _ _ h => LowB.of_below h); (focus rfl); (focus (intro w6 hR hD hP K hK; replace hK := Lib.hid hK; skip; clear hR hD hP; go_simp; exact hK.out _ (Below.refl _ _))); simp only [Act.put, List.setIfInBounds_toArray, List.set_cons_zero, List.set_cons_succ, Nat.reduceAdd, List.cons_append, List.nil_append])
    iterate 2 (apply Se.pas_x (fun _ _ h => LowB.of_below h) rfl; (focus rfl); (focus (intro w6 hR hD hP K hK; replace hK := Lib.hid hK; skip; clear hR hD hP; go_simp; exact hK.out _ (Below.refl _ _))); simp only [Act.put, List.setIfInBounds_toArray, List.set_cons_zero, List.set_cons_succ, Nat.reduceAdd, List.cons_append, List.nil_append])
    (apply Se.pas_g (fun _ _ h => LowB.of_below h); (focus rfl); (focus (intro w6 hR hD hP K hK; replace hK := Lib.hid hK; skip; clear hR hD hP; go_simp; exact hK.out _ (Below.refl _ _))); simp only [Act.put, List.setIfInBounds_toArray, List.set_cons_zero, List.set_cons_succ, Nat.reduceAdd, List.cons_append, List.nil_append])
    iterate 2 (apply Se.pas_x (fun _ _ h => LowB.of_below h) rfl; (focus rfl); (focus (intro w6 hR hD hP K hK; replace hK := Lib.hid hK; skip; clear hR hD hP; go_simp; exact hK.out _ (Below.refl _ _))); simp only [Act.put, List.setIfInBounds_toArray, List.set_cons_zero, List.set_cons_succ, Nat.reduceAdd, List.cons_append, List.nil_append])
    (apply Se.pas_g (fun _ _ h => LowB.of_below h); (focus rfl); (focus (intro w6 hR hD hP K hK; replace hK := Lib.hid hK; skip; clear hR hD hP; go_simp; exact hK.out _ (Below.refl _ _))); simp only [Act.put, List.setIfInBounds_toArray, List.set_cons_zero, List.set_cons_succ, Nat.reduceAdd, List.cons_append, List.nil_append])
    iterate 2 (apply Se.pas_x (fun _ _ h => LowB.of_below h) rfl; (focus rfl); (focus (intro w6 hR hD hP K hK; replace hK := Lib.hid hK; skip; clear hR hD hP; go_simp; exact hK.out _ (Below.refl _ _))); simp only [Act.put, List.setIfInBounds_toArray, List.set_cons_zero, List.set_cons_succ, Nat.reduceAdd, List.cons_append, List.nil_append])
    (apply Se.pas_g (e := undef) (fun _ _ h => LowB.of_below h); (focus rfl); (focus (intro w6 hR hD hP K hK; replace hK := Lib.hid hK; clear hR hD hP; go_simp; exact hK.out _ (Below.refl _ _))); simp only [Act.put, List.setIfInBounds_toArray, List.set_cons_zero, List.set_cons_succ, Nat.reduceAdd, List.cons_append, List.nil_append])
    iterate 2 (apply Se.pas_x (fun _ _ h => LowB.of_below h) rfl; (focus rfl); (focus (intro w6 hR hD hP K hK; replace hK := Lib.hid hK; skip; clear hR hD hP; go_simp; exact hK.out _ (Below.refl _ _))); simp only [Act.put, List.setIfInBounds_toArray, List.set_cons_zero, List.set_cons_succ, Nat.reduceAdd, List.cons_append, List.nil_append])
    (apply Se.pas_g (e := undef) (fun _ _ h => LowB.of_below h); (focus rfl); (focus (intro w6 hR hD hP K hK; replace hK := Lib.hid hK; clear hR hD hP; go_simp; exact hK.out _ (Below.refl _ _))); simp only [Act.put, List.setIfInBounds_toArray, List.set_cons_zero, List.set_cons_succ, Nat.reduceAdd, List.cons_append, List.nil_append])
    iterate 2 (apply Se.pas_x (fun _ _ h => LowB.of_below h) rfl; (focus rfl); (focus (intro w6 hR hD hP K hK; replace hK := Lib.hid hK; skip; clear hR hD hP; go_simp; exact hK.out _ (Below.refl _ _))); simp only [Act.put, List.setIfInBounds_toArray, List.set_cons_zero, List.set_cons_succ, Nat.reduceAdd, List.cons_append, List.nil_append])
    iterate 2 (apply Se.pas_g (e := undef) (fun _ _ h => LowB.of_below h); (focus rfl); (focus (intro w6 hR hD hP K hK; replace hK := Lib.hid hK; clear hR hD hP; go_simp; exact hK.out _ (Below.refl _ _))); simp only [Act.put, List.setIfInBounds_toArray, List.set_cons_zero, List.set_cons_succ, Nat.reduceAdd, List.cons_append, List.nil_append])
    iterate 2 (apply Se.pas_x (fun _ _ h => LowB.of_below h) rfl; (focus rfl); (focus (intro w6 hR hD hP K hK; replace hK := Lib.hid hK; skip; clear hR hD hP; go_simp; exact hK.out _ (Below.refl _ _))); simp only [Act.put, List.setIfInBounds_toArray, List.set_cons_zero, List.set_cons_succ, Nat.reduceAdd, List.cons_append, List.nil_append])
    iterate 2 (apply Se.pas_g (e := undef) (fun _ _ h => LowB.of_below h); (focus rfl); (focus (intro w6 hR hD hP K hK; replace hK := Lib.hid hK; clear hR hD hP; go_simp; exact hK.out _ (Below.refl _ _))); simp only [Act.put, List.setIfInBounds_toArray, List.set_cons_zero, List.set_cons_succ, Nat.reduceAdd, List.cons_append, List.nil_append])
    (apply Se.pas_x (fun _ _ h => LowB.of_below h) rfl; (focus rfl); (focus (intro w6 hR hD hP K hK; replace hK := Lib.hid hK; skip; clear hR hD hP; go_simp; exact hK.out _ (Below.refl _ _))); simp only [Act.put, List.setIfInBounds_toArray, List.set_cons_zero, List.set_cons_succ, Nat.reduceAdd, List.cons_append, List.nil_append])
    (apply Se.pas_s (LowB w.heap.size) (fun _ w3 => w3.heap[w.heap.size]? = some (Obj.cells #[.string nm, .int .i64 nn, .int .i64 cp, .int .i64 mm, .slice pu x.1.length cu, .slice pv y.1.length cv, .bool f] 54 (0, 0)) ∧ Tx (w.heap.size + 1) w3 (.slice pu x.1.length cu) x.1 ∧ Tx (w.heap.size + 1) w3 (.slice pv y.1.length cv) y.1) (fun _ _ h => h) rfl (fun v w1 w2 h k => ⟨block_below h.1 k, h.2.1.below k, h.2.2.below k⟩); (focus rfl); (focus (intro w6 hR hD hP K hK; replace hK := Lib.hid hK; have hq := hP _ (List.mem_cons_self ..) (.inl rfl); have g0 := cell_of_block hq.1 0 _ rfl; have g1 := cell_of_block hq.1 1 _ rfl; have g2 := cell_of_block hq.1 2 _ rfl; have g3 := cell_of_block hq.1 3 _ rfl; have g4 := cell_of_block hq.1 4 _ rfl; have g5 := cell_of_block hq.1 5 _ rfl; have g6 := cell_of_block hq.1 6 _ rfl; have ff := fun j => free_of_block hq.1 j; have HQ := Lib.hid hq; clear hR hD hP hq; go_simp; exact hK.out undef _ (LowB.of_sets (b := w.heap.size) (fun _ => Nat.le_refl _) [.string nm, .int .i64 nn, .int .i64 cp, .int .i64 mm, .slice pu x.1.length cu, .slice pv y.1.length cv, .bool f] 0 w6) ⟨sets7 (.string nm) (.int .i64 nn) (.int .i64 cp) (.int .i64 mm) (.slice pu x.1.length cu) (.slice pv y.1.length cv) (.bool f) HQ.out.1, HQ.out.2.1.gb (Gb.sets' w.heap.size [.string nm, .int .i64 nn, .int .i64 cp, .int .i64 mm, .slice pu x.1.length cu, .slice pv y.1.length cv, .bool f] 0 w6) (Nat.lt_succ_self _), HQ.out.2.2.gb (Gb.sets' w.heap.size [.string nm, .int .i64 nn, .int .i64 cp, .int .i64 mm, .slice pu x.1.length cu, .slice pv y.1.length cv, .bool f] 0 w6) (Nat.lt_succ_self _)⟩)); simp only [Act.put, List.setIfInBounds_toArray, List.set_cons_zero, List.set_cons_succ, Nat.reduceAdd, List.cons_append, List.nil_append])
    refine Se.pas_ends (by simp [Se.AllK]) (by simp [Se.AllK]) fun w6 hR hp _ => ?_
    have h25 : (fun w3 => w3.heap[w.heap.size]? = some (Obj.cells #[.string nm, .int .i64 nn, .int .i64 cp, .int .i64 mm, .slice pu x.1.length cu, .slice pv y.1.length cv, .bool f] 54 (0, 0)) ∧ Tx (w.heap.size + 1) w3 (.slice pu x.1.length cu) x.1 ∧ Tx (w.heap.size + 1) w3 (.slice pv y.1.length cv) y.1) w6 := hp 25 (by simp)
    have H25 := Lib.hid h25
    have HB6 := Lib.hid (HBW.out.drew.trans (hR HBW.out.size))
    clear hp h25 hR
    go_wp2
    have k0 := cell_of_block H25.out.1 0 _ rfl
    have k1 := cell_of_block H25.out.1 1 _ rfl
    have k2 := cell_of_block H25.out.1 2 _ rfl
    have k3 := cell_of_block H25.out.1 3 _ rfl
    have k4 := cell_of_block H25.out.1 4 _ rfl
    have k5 := cell_of_block H25.out.1 5 _ rfl
    have k6 := cell_of_block H25.out.1 6 _ rfl
    refine bodyPost_ret (v := .tuple #[.agg #[.string nm, .int .i64 nn, .int .i64 cp, .int .i64 mm, .slice pu x.1.length cu, .slice pv y.1.length cv, .bool f], .bool (false)]) (by simp [results, Tryz.results66, go_sem, k0, k1, k2, k3, k4, k5, k6]) rfl ⟨[.string nm, .int .i64 nn, .int .i64 cp, .int .i64 mm, .slice pu x.1.length cu, .slice pv y.1.length cv, .bool f], ?_, ?_, HB6.out⟩
    · have : podB s = (false) := by rw [HPB.out, HC1.out, HC2.out, HC5.out, HC6.out]; simp
      rw [this]
    · rw [HPX.out]
      exact ⟨.slice pu x.1.length cu, .slice pv y.1.length cv, by rw [← HNM.out], H25.out.2.1.base (Nat.le_succ _), H25.out.2.2.base (Nat.le_succ _)⟩
  · go_upto_region 10 with fail
    refine' Se.wp_region_pass (fun w w' => Below w.heap.size w w') (LowB w.heap.size) 26 (by kernel_rfl) (by kernel_rfl) (by kernel_rfl) (by kernel_rfl) (by kernel_rfl) (by kernel_rfl)
      (fun w => LowB.refl _ _) (fun h k => LowB.trans h k) [((fun w3 => w3.heap[w.heap.size]? = some (Obj.cells #[.string nm, .int .i64 nn, .int .i64 cp, .int .i64 mm, .slice pu x.1.length cu, .slice pv y.1.length cv, .bool f] 54 (0, 0)) ∧ Tx (w.heap.size + 1) w3 (.slice pu x.1.length cu) x.1 ∧ Tx (w.heap.size + 1) w3 (.slice pv y.1.length cv) y.1), 25)] [] ?_ ?_ (by simp) (fun vals => ?_)
    case refine'_2 =>
      intro e he
      obtain rfl := List.mem_singleton.1 he
      exact ⟨PREW.out.1, PREW.out.2.1.drew, PREW.out.2.2.drew⟩
    case refine'_3 =>
      intro e he w1' w2' k h
      obtain rfl := List.mem_singleton.1 he
      exact ⟨block_below h.1 k, h.2.1.below k, h.2.2.below k⟩
    rotate_left
    simp only [List.take_succ_cons, List.take_zero, List.drop_succ_cons, List.drop_zero]
    (apply Se.pas_x (fun _ _ h => LowB.of_below h) rfl; (focus rfl); (focus (intro w6 hR hD hP K hK; replace hK := Lib.hid hK; have hq := (hP _ (List.mem_cons_self ..) (.inr (by kernel_rfl))).1; have e0 := cell_of_block hq 0 _ rfl; have e1 := cell_of_block hq 1 _ rfl; have e2 := cell_of_block hq 2 _ rfl; have e3 := cell_of_block hq 3 _ rfl; have e4 := cell_of_block hq 4 _ rfl; have e5 := cell_of_block hq 5 _ rfl; have e6 := cell_of_block hq 6 _ rfl; clear hR hD hP hq; go_simp; exact hK.out _ (Below.refl _ _))); simp only [Act.put, List.setIfInBounds_toArray, List.set_cons_zero, List.set_cons_succ, Nat.reduceAdd, List.cons_append, List.nil_append])
    iterate 2 (apply Se.pas_x (fun _ _ h => LowB.of_below h) rfl; (focus rfl); (focus (intro w6 hR hD hP K hK; replace hK := Lib.hid hK; skip; clear hR hD hP; go_simp; exact hK.out _ (Below.refl _ _))); simp only [Act.put, List.setIfInBounds_toArray, List.set_cons_zero, List.set_cons_succ, Nat.reduceAdd, List.cons_append, List.nil_append])
    (apply Se.pas_g (fun _ _ h => LowB.of_below h); (focus rfl); (focus (intro w6 hR hD hP K hK; replace hK := Lib.hid hK; skip; clear hR hD hP; go_simp; exact hK.out _ (Below.refl _ _))); simp only [Act.put, List.setIfInBounds_toArray, List.set_cons_zero, List.set_cons_succ, Nat.reduceAdd, List.cons_append, List.nil_append])
    iterate 2 (apply Se.pas_x (fun _ _ h => LowB.of_below h) rfl; (focus rfl); (focus (intro w6 hR hD hP K hK; replace hK := Lib.hid hK; skip; clear hR hD hP; go_simp; exact hK.out _ (Below.refl _ _))); simp only [Act.put, List.setIfInBounds_toArray, List.set_cons_zero, List.set_cons_succ, Nat.reduceAdd, List.cons_append, List.nil_append])
    (apply Se.pas_g (fun _ _ h => LowB.of_below h); (focus rfl); (focus (intro w6 hR hD hP K hK; replace hK := Lib.hid hK; skip; clear hR hD hP; go_simp; exact hK.out _ (Below.refl _ _))); simp only [Act.put, List.setIfInBounds_toArray, List.set_cons_zero, List.set_cons_succ, Nat.reduceAdd, List.cons_append, List.nil_append])
    iterate 2 (apply Se.pas_x (fun _ _ h => LowB.of_below h) rfl; (focus rfl); (focus (intro w6 hR hD hP K hK; replace hK := Lib.hid hK; skip; clear hR hD hP; go_simp; exact hK.out _ (Below.refl _ _))); simp only [Act.put, List.setIfInBounds_toArray, List.set_cons_zero, List.set_cons_succ, Nat.reduceAdd, List.cons_append, List.nil_append])
    (apply Se.pas_g (fun _ _ h => LowB.of_below h); (focus rfl); (focus (intro w6 hR hD hP K hK; replace hK := Lib.hid hK; skip; clear hR hD hP; go_simp; exact hK.out _ (Below.refl _ _))); simp only [Act.put, List.setIfInBounds_toArray, List.set_cons_zero, List.set_cons_succ, Nat.reduceAdd, List.cons_append, List.nil_append])
    iterate 2 (apply Se.pas_x (fun _ _ h => LowB.of_below h) rfl; (focus rfl); (focus (intro w6 hR hD hP K hK; replace hK := Lib.hid hK; skip; clear hR hD hP; go_simp; exact hK.out _ (Below.refl _ _))); simp only [Act.put, List.setIfInBounds_toArray, List.set_cons_zero, List.set_cons_succ, Nat.reduceAdd, List.cons_append, List.nil_append])
    (apply Se.pas_g (fun _ _ h => LowB.of_below h); (focus rfl); (focus (intro w6 hR hD hP K hK; replace hK := Lib.hid hK; skip; clear hR hD hP; go_simp; exact hK.out _ (Below.refl _ _))); simp only [Act.put, List.setIfInBounds_toArray, List.set_cons_zero, List.set_cons_succ, Nat.reduceAdd, List.cons_append, List.nil_append])
    iterate 2 (apply Se.pas_x (fun _ _ h => LowB.of_below h) rfl; (focus rfl); (focus (intro w6 hR hD hP K hK; replace hK := Lib.hid hK; skip; clear hR hD hP; go_simp; exact hK.out _ (Below.refl _ _))); simp only [Act.put, List.setIfInBounds_toArray, List.set_cons_zero, List.set_cons_succ, Nat.reduceAdd, List.cons_append, List.nil_append])
    (apply Se.pas_g (e := undef) (fun _ _ h => LowB.of_below h); (focus rfl); (focus (intro w6 hR hD hP K hK; replace hK := Lib.hid hK; clear hR hD hP; go_simp; exact hK.out _ (Below.refl _ _))); simp only [Act.put, List.setIfInBounds_toArray, List.set_cons_zero, List.set_cons_succ, Nat.reduceAdd, List.cons_append, List.nil_append])
    iterate 2 (apply Se.pas_x (fun _ _ h => LowB.of_below h) rfl; (focus rfl); (focus (intro w6 hR hD hP K hK; replace hK := Lib.hid hK; skip; clear hR hD hP; go_simp; exact hK.out _ (Below.refl _ _))); simp only [Act.put, List.setIfInBounds_toArray, List.set_cons_zero, List.set_cons_succ, Nat.reduceAdd, List.cons_append, List.nil_append])
    iterate 2 (apply Se.pas_g (e := undef) (fun _ _ h => LowB.of_below h); (focus rfl); (focus (intro w6 hR hD hP K hK; replace hK := Lib.hid hK; clear hR hD hP; go_simp; exact hK.out _ (Below.refl _ _))); simp only [Act.put, List.setIfInBounds_toArray, List.set_cons_zero, List.set_cons_succ, Nat.reduceAdd, List.cons_append, List.nil_append])
    iterate 2 (apply Se.pas_x (fun _ _ h => LowB.of_below h) rfl; (focus rfl); (focus (intro w6 hR hD hP K hK; replace hK := Lib.hid hK; skip; clear hR hD hP; go_simp; exact hK.out _ (Below.refl _ _))); simp only [Act.put, List.setIfInBounds_toArray, List.set_cons_zero, List.set_cons_succ, Nat.reduceAdd, List.cons_append, List.nil_append])
    iterate 2 (apply Se.pas_g (e := undef) (fun _ _ h => LowB.of_below h); (focus rfl); (focus (intro w6 hR hD hP K hK; replace hK := Lib.hid hK; clear hR hD hP; go_simp; exact hK.out _ (Below.refl _ _))); simp only [Act.put, List.setIfInBounds_toArray, List.set_cons_zero, List.set_cons_succ, Nat.reduceAdd, List.cons_append, List.nil_append])
    (apply Se.pas_x (fun _ _ h => LowB.of_below h) rfl; (focus rfl); (focus (intro w6 hR hD hP K hK; replace hK := Lib.hid hK; skip; clear hR hD hP; go_simp; exact hK.out _ (Below.refl _ _))); simp only [Act.put, List.setIfInBounds_toArray, List.set_cons_zero, List.set_cons_succ, Nat.reduceAdd, List.cons_append, List.nil_append])
    (apply Se.pas_s (LowB w.heap.size) (fun _ w3 => w3.heap[w.heap.size]? = some (Obj.cells #[.string nm, .int .i64 nn, .int .i64 cp, .int .i64 mm, .slice pu x.1.length cu, .slice pv y.1.length cv, .bool f] 54 (0, 0)) ∧ Tx (w.heap.size + 1) w3 (.slice pu x.1.length cu) x.1 ∧ Tx (w.heap.size + 1) w3 (.slice pv y.1.length cv) y.1) (fun _ _ h => h) rfl (fun v w1 w2 h k => ⟨block_below h.1 k, h.2.1.below k, h.2.2.below k⟩); (focus rfl); (focus (intro w6 hR hD hP K hK; replace hK := Lib.hid hK; have hq := hP _ (List.mem_cons_self ..) (.inl rfl); have g0 := cell_of_block hq.1 0 _ rfl; have g1 := cell_of_block hq.1 1 _ rfl; have g2 := cell_of_block hq.1 2 _ rfl; have g3 := cell_of_block hq.1 3 _ rfl; have g4 := cell_of_block hq.1 4 _ rfl; have g5 := cell_of_block hq.1 5 _ rfl; have g6 := cell_of_block hq.1 6 _ rfl; have ff := fun j => free_of_block hq.1 j; have HQ := Lib.hid hq; clear hR hD hP hq; go_simp; exact hK.out undef _ (LowB.of_sets (b := w.heap.size) (fun _ => Nat.le_refl _) [.string nm, .int .i64 nn, .int .i64 cp, .int .i64 mm, .slice pu x.1.length cu, .slice pv y.1.length cv, .bool f] 0 w6) ⟨sets7 (.string nm) (.int .i64 nn) (.int .i64 cp) (.int .i64 mm) (.slice pu x.1.length cu) (.slice pv y.1.length cv) (.bool f) HQ.out.1, HQ.out.2.1.gb (Gb.sets' w.heap.size [.string nm, .int .i64 nn, .int .i64 cp, .int .i64 mm, .slice pu x.1.length cu, .slice pv y.1.length cv, .bool f] 0 w6) (Nat.lt_succ_self _), HQ.out.2.2.gb (Gb.sets' w.heap.size [.string nm, .int .i64 nn, .int .i64 cp, .int .i64 mm, .slice pu x.1.length cu, .slice pv y.1.length cv, .bool f] 0 w6) (Nat.lt_succ_self _)⟩)); simp only [Act.put, List.setIfInBounds_toArray, List.set_cons_zero, List.set_cons_succ, Nat.reduceAdd, List.cons_append, List.nil_append])
    refine Se.pas_ends (by simp [Se.AllK]) (by simp [Se.AllK]) fun w6 hR hp _ => ?_
    have h25 : (fun w3 => w3.heap[w.heap.size]? = some (Obj.cells #[.string nm, .int .i64 nn, .int .i64 cp, .int .i64 mm, .slice pu x.1.length cu, .slice pv y.1.length cv, .bool f] 54 (0, 0)) ∧ Tx (w.heap.size + 1) w3 (.slice pu x.1.length cu) x.1 ∧ Tx (w.heap.size + 1) w3 (.slice pv y.1.length cv) y.1) w6 := hp 25 (by simp)
    have H25 := Lib.hid h25
    have HB6 := Lib.hid (HBW.out.drew.trans (hR HBW.out.size))
    clear hp h25 hR
    go_wp2
    have k0 := cell_of_block H25.out.1 0 _ rfl
    have k1 := cell_of_block H25.out.1 1 _ rfl
    have k2 := cell_of_block H25.out.1 2 _ rfl
    have k3 := cell_of_block H25.out.1 3 _ rfl
    have k4 := cell_of_block H25.out.1 4 _ rfl
    have k5 := cell_of_block H25.out.1 5 _ rfl
    have k6 := cell_of_block H25.out.1 6 _ rfl
    refine bodyPost_ret (v := .tuple #[.agg #[.string nm, .int .i64 nn, .int .i64 cp, .int .i64 mm, .slice pu x.1.length cu, .slice pv y.1.length cv, .bool f], .bool (false)]) (by simp [results, Tryz.results66, go_sem, k0, k1, k2, k3, k4, k5, k6]) rfl ⟨[.string nm, .int .i64 nn, .int .i64 cp, .int .i64 mm, .slice pu x.1.length cu, .slice pv y.1.length cv, .bool f], ?_, ?_, HB6.out⟩
    · have : podB s = (false) := by rw [HPB.out, HC1.out, HC2.out, HC5.out, HC6.out]; simp
      rw [this]
    · rw [HPX.out]
      exact ⟨.slice pu x.1.length cu, .slice pv y.1.length cv, by rw [← HNM.out], H25.out.2.1.base (Nat.le_succ _), H25.out.2.2.base (Nat.le_succ _)⟩
  · go_upto_region 10 with fail
    refine' Se.wp_region_pass (fun w w' => Below w.heap.size w w') (LowB w.heap.size) 26 (by kernel_rfl) (by kernel_rfl) (by kernel_rfl) (by kernel_rfl) (by kernel_rfl) (by kernel_rfl)
      (fun w => LowB.refl _ _) (fun h k => LowB.trans h k) [((fun w3 => w3.heap[w.heap.size]? = some (Obj.cells #[.string nm, .int .i64 nn, .int .i64 cp, .int .i64 mm, .slice pu x.1.length cu, .slice pv y.1.length cv, .bool f] 54 (0, 0)) ∧ Tx (w.heap.size + 1) w3 (.slice pu x.1.length cu) x.1 ∧ Tx (w.heap.size + 1) w3 (.slice pv y.1.length cv) y.1), 25)] [] ?_ ?_ (by simp) (fun vals => ?_)
    case refine'_2 =>
      intro e he
      obtain rfl := List.mem_singleton.1 he
      exact ⟨PREW.out.1, PREW.out.2.1.drew, PREW.out.2.2.drew⟩
    case refine'_3 =>
      intro e he w1' w2' k h
      obtain rfl := List.mem_singleton.1 he
      exact ⟨block_below h.1 k, h.2.1.below k, h.2.2.below k⟩
    rotate_left
    simp only [List.take_succ_cons, List.take_zero, List.drop_succ_cons, List.drop_zero]
    (apply Se.pas_x (fun _ _ h => LowB.of_below h) rfl; (focus rfl); (focus (intro w6 hR hD hP K hK; replace hK := Lib.hid hK; have hq := (hP _ (List.mem_cons_self ..) (.inr (by kernel_rfl))).1; have e0 := cell_of_block hq 0 _ rfl; have e1 := cell_of_block hq 1 _ rfl; have e2 := cell_of_block hq 2 _ rfl; have e3 := cell_of_block hq 3 _ rfl; have e4 := cell_of_block hq 4 _ rfl; have e5 := cell_of_block hq 5 _ rfl; have e6 := cell_of_block hq 6 _ rfl; clear hR hD hP hq; go_simp; exact hK.out _ (Below.refl _ _))); simp only [Act.put, List.setIfInBounds_toArray, List.set_cons_zero, List.set_cons_succ, Nat.reduceAdd, List.cons_append, List.nil_append])
    iterate 2 (apply Se.pas_x (fun _ _ h => LowB.of_below h) rfl; (focus rfl); (focus (intro w6 hR hD hP K hK; replace hK := Lib.hid hK; skip; clear hR hD hP; go_simp; exact hK.out _ (Below.refl _ _))); simp only [Act.put, List.setIfInBounds_toArray, List.set_cons_zero, List.set_cons_succ, Nat.reduceAdd, List.cons_append, List.nil_append])
    (apply Se.pas_g (fun _ _ h => LowB.of_below h); (focus rfl); (focus (intro w6 hR hD hP K hK; replace hK := Lib.hid hK; skip; clear hR hD hP; go_simp; exact hK.out _ (Below.refl _ _))); simp only [Act.put, List.setIfInBounds_toArray, List.set_cons_zero, List.set_cons_succ, Nat.reduceAdd, List.cons_append, List.nil_append])
    iterate 2 (apply Se.pas_x (fun _ _ h => LowB.of_below h) rfl; (focus rfl); (focus (intro w6 hR hD hP K hK; replace hK := Lib.hid hK; skip; clear hR hD hP; go_simp; exact hK.out _ (Below.refl _ _))); simp only [Act.put, List.setIfInBounds_toArray, List.set_cons_zero, List.set_cons_succ, Nat.reduceAdd, List.cons_append, List.nil_append])
    (apply Se.pas_g (fun _ _ h => LowB.of_below h); (focus rfl); (focus (intro w6 hR hD hP K hK; replace hK := Lib.hid hK; skip; clear hR hD hP; go_simp; exact hK.out _ (Below.refl _ _))); simp only [Act.put, List.setIfInBounds_toArray, List.set_cons_zero, List.set_cons_succ, Nat.reduceAdd, List.cons_append, List.nil_append])
    iterate 2 (apply Se.pas_x (fun _ _ h => LowB.of_below h) rfl; (focus rfl); (focus (intro w6 hR hD hP K hK; replace hK := Lib.hid hK; skip; clear hR hD hP; go_simp; exact hK.out _ (Below.refl _ _))); simp only [Act.put, List.setIfInBounds_toArray, List.set_cons_zero, List.set_cons_succ, Nat.reduceAdd, List.cons_append, List.nil_append])
    (apply Se.pas_g (fun _ _ h => LowB.of_below h); (focus rfl); (focus (intro w6 hR hD hP K hK; replace hK := Lib.hid hK; skip; clear hR hD hP; go_simp; exact hK.out _ (Below.refl _ _))); simp only [Act.put, List.setIfInBounds_toArray, List.set_cons_zero, List.set_cons_succ, Nat.reduceAdd, List.cons_append, List.nil_append])
    iterate 2 (apply Se.pas_x (fun _ _ h => LowB.of_below h) rfl; (focus rfl); (focus (intro w6 hR hD hP K hK; replace hK := Lib.hid hK; skip; clear hR hD hP; go_simp; exact hK.out _ (Below.refl _ _))); simp only [Act.put, List.setIfInBounds_toArray, List.set_cons_zero, List.set_cons_succ, Nat.reduceAdd, List.cons_append, List.nil_append])
    (apply Se.pas_g (fun _ _ h => LowB.of_below h); (focus rfl); (focus (intro w6 hR hD hP K hK; replace hK := Lib.hid hK; skip; clear hR hD hP; go_simp; exact hK.out _ (Below.refl _ _))); simp only [Act.put, List.setIfInBounds_toArray, List.set_cons_zero, List.set_cons_succ, Nat.reduceAdd, List.cons_append, List.nil_append])
    iterate 2 (apply Se.pas_x (fun _ _ h => LowB.of_below h) rfl; (focus rfl); (focus (intro w6 hR hD hP K hK; replace hK := Lib.hid hK; skip; clear hR hD hP; go_simp; exact hK.out _ (Below.refl _ _))); simp only [Act.put, List.setIfInBounds_toArray, List.set_cons_zero, List.set_cons_succ, Nat.reduceAdd, List.cons_append, List.nil_append])
    (apply Se.pas_g (fun _ _ h => LowB.of_below h); (focus rfl); (focus (intro w6 hR hD hP K hK; replace hK := Lib.hid hK; skip; clear hR hD hP; go_simp; exact hK.out _ (Below.refl _ _))); simp only [Act.put, List.setIfInBounds_toArray, List.set_cons_zero, List.set_cons_succ, Nat.reduceAdd, List.cons_append, List.nil_append])
    iterate 2 (apply Se.pas_x (fun _ _ h => LowB.of_below h) rfl; (focus rfl); (focus (intro w6 hR hD hP K hK; replace hK := Lib.hid hK; skip; clear hR hD hP; go_simp; exact hK.out _ (Below.refl _ _))); simp only [Act.put, List.setIfInBounds_toArray, List.set_cons_zero, List.set_cons_succ, Nat.reduceAdd, List.cons_append, List.nil_append])
    iterate 2 (apply Se.pas_g (e := undef) (fun _ _ h => LowB.of_below h); (focus rfl); (focus (intro w6 hR hD hP K hK; replace hK := Lib.hid hK; clear hR hD hP; go_simp; exact hK.out _ (Below.refl _ _))); simp only [Act.put, List.setIfInBounds_toArray, List.set_cons_zero, List.set_cons_succ, Nat.reduceAdd, List.cons_append, List.nil_append])
    iterate 2 (apply Se.pas_x (fun _ _ h => LowB.of_below h) rfl; (focus rfl); (focus (intro w6 hR hD hP K hK; replace hK := Lib.hid hK; skip; clear hR hD hP; go_simp; exact hK.out _ (Below.refl _ _))); simp only [Act.put, List.setIfInBounds_toArray, List.set_cons_zero, List.set_cons_succ, Nat.reduceAdd, List.cons_append, List.nil_append])
    iterate 2 (apply Se.pas_g (e := undef) (fun _ _ h => LowB.of_below h); (focus rfl); (focus (intro w6 hR hD hP K hK; replace hK := Lib.hid hK; clear hR hD hP; go_simp; exact hK.out _ (Below.refl _ _))); simp only [Act.put, List.setIfInBounds_toArray, List.set_cons_zero, List.set_cons_succ, Nat.reduceAdd, List.cons_append, List.nil_append])
    (apply Se.pas_x (fun _ _ h => LowB.of_below h) rfl; (focus rfl); (focus (intro w6 hR hD hP K hK; replace hK := Lib.hid hK; skip; clear hR hD hP; go_simp; exact hK.out _ (Below.refl _ _))); simp only [Act.put, List.setIfInBounds_toArray, List.set_cons_zero, List.set_cons_succ, Nat.reduceAdd, List.cons_append, List.nil_append])
    (apply Se.pas_s (LowB w.heap.size) (fun _ w3 => w3.heap[w.heap.size]? = some (Obj.cells #[.string nm, .int .i64 nn, .int .i64 cp, .int .i64 mm, .slice pu x.1.length cu, .slice pv y.1.length cv, .bool f] 54 (0, 0)) ∧ Tx (w.heap.size + 1) w3 (.slice pu x.1.length cu) x.1 ∧ Tx (w.heap.size + 1) w3 (.slice pv y.1.length cv) y.1) (fun _ _ h => h) rfl (fun v w1 w2 h k => ⟨block_below h.1 k, h.2.1.below k, h.2.2.below k⟩); (focus rfl); (focus (intro w6 hR hD hP K hK; replace hK := Lib.hid hK; have hq := hP _ (List.mem_cons_self ..) (.inl rfl); have g0 := cell_of_block hq.1 0 _ rfl; have g1 := cell_of_block hq.1 1 _ rfl; have g2 := cell_of_block hq.1 2 _ rfl; have g3 := cell_of_block hq.1 3 _ rfl; have g4 := cell_of_block hq.1 4 _ rfl; have g5 := cell_of_block hq.1 5 _ rfl; have g6 := cell_of_block hq.1 6 _ rfl; have ff := fun j => free_of_block hq.1 j; have HQ := Lib.hid hq; clear hR hD hP hq; go_simp; exact hK.out undef _ (LowB.of_sets (b := w.heap.size) (fun _ => Nat.le_refl _) [.string nm, .int .i64 nn, .int .i64 cp, .int .i64 mm, .slice pu x.1.length cu, .slice pv y.1.length cv, .bool f] 0 w6) ⟨sets7 (.string nm) (.int .i64 nn) (.int .i64 cp) (.int .i64 mm) (.slice pu x.1.length cu) (.slice pv y.1.length cv) (.bool f) HQ.out.1, HQ.out.2.1.gb (Gb.sets' w.heap.size [.string nm, .int .i64 nn, .int .i64 cp, .int .i64 mm, .slice pu x.1.length cu, .slice pv y.1.length cv, .bool f] 0 w6) (Nat.lt_succ_self _), HQ.out.2.2.gb (Gb.sets' w.heap.size [.string nm, .int .i64 nn, .int .i64 cp, .int .i64 mm, .slice pu x.1.length cu, .slice pv y.1.length cv, .bool f] 0 w6) (Nat.lt_succ_self _)⟩)); simp only [Act.put, List.setIfInBounds_toArray, List.set_cons_zero, List.set_cons_succ, Nat.reduceAdd, List.cons_append, List.nil_append])
    refine Se.pas_ends (by simp [Se.AllK]) (by simp [Se.AllK]) fun w6 hR hp _ => ?_
    have h25 : (fun w3 => w3.heap[w.heap.size]? = some (Obj.cells #[.string nm, .int .i64 nn, .int .i64 cp, .int .i64 mm, .slice pu x.1.length cu, .slice pv y.1.length cv, .bool f] 54 (0, 0)) ∧ Tx (w.heap.size + 1) w3 (.slice pu x.1.length cu) x.1 ∧ Tx (w.heap.size + 1) w3 (.slice pv y.1.length cv) y.1) w6 := hp 25 (by simp)
    have H25 := Lib.hid h25
    have HB6 := Lib.hid (HBW.out.drew.trans (hR HBW.out.size))
    clear hp h25 hR
    go_wp2
    have k0 := cell_of_block H25.out.1 0 _ rfl
    have k1 := cell_of_block H25.out.1 1 _ rfl
    have k2 := cell_of_block H25.out.1 2 _ rfl
    have k3 := cell_of_block H25.out.1 3 _ rfl
    have k4 := cell_of_block H25.out.1 4 _ rfl
    have k5 := cell_of_block H25.out.1 5 _ rfl
    have k6 := cell_of_block H25.out.1 6 _ rfl
    refine bodyPost_ret (v := .tuple #[.agg #[.string nm, .int .i64 nn, .int .i64 cp, .int .i64 mm, .slice pu x.1.length cu, .slice pv y.1.length cv, .bool f], .bool (false)]) (by simp [results, Tryz.results66, go_sem, k0, k1, k2, k3, k4, k5, k6]) rfl ⟨[.string nm, .int .i64 nn, .int .i64 cp, .int .i64 mm, .slice pu x.1.length cu, .slice pv y.1.length cv, .bool f], ?_, ?_, HB6.out⟩
    · have : podB s = (false) := by rw [HPB.out, HC1.out, HC2.out, HC5.out, HC6.out]; simp
      rw [this]
    · rw [HPX.out]
      exact ⟨.slice pu x.1.length cu, .slice pv y.1.length cv, by rw [← HNM.out], H25.out.2.1.base (Nat.le_succ _), H25.out.2.2.base (Nat.le_succ _)⟩
  · obtain ⟨zy, hzy⟩ : ∃ z, str yy = z := ⟨_, rfl⟩
    have hxe := str_some (s := zy) (by rw [← hzy, str_size]; exact fun e => hyy (List.length_eq_zero_iff.1 e))
    have hxf : zy.toList.isEmpty = false := by simpa using hxe
    have hxn : ¬ zy.toList = [] := by simpa using hxe
    rw [hzy]
    have HZY := Lib.hid hzy
    clear hzy
    go_upto_region 10 with fail
    refine' Se.wp_region_pass (fun w w' => Below w.heap.size w w') (LowB w.heap.size) 26 (by kernel_rfl) (by kernel_rfl) (by kernel_rfl) (by kernel_rfl) (by kernel_rfl) (by kernel_rfl)
      (fun w => LowB.refl _ _) (fun h k => LowB.trans h k) [((fun w3 => w3.heap[w.heap.size]? = some (Obj.cells #[.string nm, .int .i64 nn, .int .i64 cp, .int .i64 mm, .slice pu x.1.length cu, .slice pv y.1.length cv, .bool f] 54 (0, 0)) ∧ Tx (w.heap.size + 1) w3 (.slice pu x.1.length cu) x.1 ∧ Tx (w.heap.size + 1) w3 (.slice pv y.1.length cv) y.1), 25)] [] ?_ ?_ (by simp) (fun vals => ?_)
    case refine'_2 =>
      intro e he
      obtain rfl := List.mem_singleton.1 he
      exact ⟨PREW.out.1, PREW.out.2.1.drew, PREW.out.2.2.drew⟩
    case refine'_3 =>
      intro e he w1' w2' k h
      obtain rfl := List.mem_singleton.1 he
      exact ⟨block_below h.1 k, h.2.1.below k, h.2.2.below k⟩
    rotate_left
    simp only [List.take_succ_cons, List.take_zero, List.drop_succ_cons, List.drop_zero]
    (apply Se.pas_x (fun _ _ h => LowB.of_below h) rfl; (focus rfl); (focus (intro w6 hR hD hP K hK; replace hK := Lib.hid hK; have hq := (hP _ (List.mem_cons_self ..) (.inr (by kernel_rfl))).1; have e0 := cell_of_block hq 0 _ rfl; have e1 := cell_of_block hq 1 _ rfl; have e2 := cell_of_block hq 2 _ rfl; have e3 := cell_of_block hq 3 _ rfl; have e4 := cell_of_block hq 4 _ rfl; have e5 := cell_of_block hq 5 _ rfl; have e6 := cell_of_block hq 6 _ rfl; clear hR hD hP hq; go_simp; exact hK.out _ (Below.refl _ _))); simp only [Act.put, List.setIfInBounds_toArray, List.set_cons_zero, List.set_cons_succ, Nat.reduceAdd, List.cons_append, List.nil_append])
    iterate 2 (apply Se.pas_x (fun _ _ h => LowB.of_below h) rfl; (focus rfl); (focus (intro w6 hR hD hP K hK; replace hK := Lib.hid hK; skip; clear hR hD hP; go_simp; exact hK.out _ (Below.refl _ _))); simp only [Act.put, List.setIfInBounds_toArray, List.set_cons_zero, List.set_cons_succ, Nat.reduceAdd, List.cons_append, List.nil_append])
    (apply Se.pas_g (fun _ _ h => LowB.of_below h); (focus rfl); (focus (intro w6 hR hD hP K hK; replace hK := Lib.hid hK; skip; clear hR hD hP; go_simp; exact hK.out _ (Below.refl _ _))); simp only [Act.put, List.setIfInBounds_toArray, List.set_cons_zero, List.set_cons_succ, Nat.reduceAdd, List.cons_append, List.nil_append])
    iterate 2 (apply Se.pas_x (fun _ _ h => LowB.of_below h) rfl; (focus rfl); (focus (intro w6 hR hD hP K hK; replace hK := Lib.hid hK; skip; clear hR hD hP; go_simp; exact hK.out _ (Below.refl _ _))); simp only [Act.put, List.setIfInBounds_toArray, List.set_cons_zero, List.set_cons_succ, Nat.reduceAdd, List.cons_append, List.nil_append])
    (apply Se.pas_g (fun _ _ h => LowB.of_below h); (focus rfl); (focus (intro w6 hR hD hP K hK; replace hK := Lib.hid hK; skip; clear hR hD hP; go_simp; exact hK.out _ (Below.refl _ _))); simp only [Act.put, List.setIfInBounds_toArray, List.set_cons_zero, List.set_cons_succ, Nat.reduceAdd, List.cons_append, List.nil_append])
    iterate 2 (apply Se.pas_x (fun _ _ h => LowB.of_below h) rfl; (focus rfl); (focus (intro w6 hR hD hP K hK; replace hK := Lib.hid hK; skip; clear hR hD hP; go_simp; exact hK.out _ (Below.refl _ _))); simp only [Act.put, List.setIfInBounds_toArray, List.set_cons_zero, List.set_cons_succ, Nat.reduceAdd, List.cons_append, List.nil_append])
    (apply Se.pas_g (fun _ _ h => LowB.of_below h); (focus rfl); (focus (intro w6 hR hD hP K hK; replace hK := Lib.hid hK; skip; clear hR hD hP; go_simp; exact hK.out _ (Below.refl _ _))); simp only [Act.put, List.setIfInBounds_toArray, List.set_cons_zero, List.set_cons_succ, Nat.reduceAdd, List.cons_append, List.nil_append])
    iterate 2 (apply Se.pas_x (fun _ _ h => LowB.of_below h) rfl; (focus rfl); (focus (intro w6 hR hD hP K hK; replace hK := Lib.hid hK; skip; clear hR hD hP; go_simp; exact hK.out _ (Below.refl _ _))); simp only [Act.put, List.setIfInBounds_toArray, List.set_cons_zero, List.set_cons_succ, Nat.reduceAdd, List.cons_append, List.nil_append])
    (apply Se.pas_g (fun _ _ h => LowB.of_below h); (focus rfl); (focus (intro w6 hR hD hP K hK; replace hK := Lib.hid hK; skip; clear hR hD hP; go_simp; exact hK.out _ (Below.refl _ _))); simp only [Act.put, List.setIfInBounds_toArray, List.set_cons_zero, List.set_cons_succ, Nat.reduceAdd, List.cons_append, List.nil_append])
    iterate 2 (apply Se.pas_x (fun _ _ h => LowB.of_below h) rfl; (focus rfl); (focus (intro w6 hR hD hP K hK; replace hK := Lib.hid hK; skip; clear hR hD hP; go_simp; exact hK.out _ (Below.refl _ _))); simp only [Act.put, List.setIfInBounds_toArray, List.set_cons_zero, List.set_cons_succ, Nat.reduceAdd, List.cons_append, List.nil_append])
    (apply Se.pas_g (fun _ _ h => LowB.of_below h); (focus rfl); (focus (intro w6 hR hD hP K hK; replace hK := Lib.hid hK; skip; clear hR hD hP; go_simp; exact hK.out _ (Below.refl _ _))); simp only [Act.put, List.setIfInBounds_toArray, List.set_cons_zero, List.set_cons_succ, Nat.reduceAdd, List.cons_append, List.nil_append])
    iterate 2 (apply Se.pas_x (fun _ _ h => LowB.of_below h) rfl; (focus rfl); (focus (intro w6 hR hD hP K hK; replace hK := Lib.hid hK; skip; clear hR hD hP; go_simp; exact hK.out _ (Below.refl _ _))); simp only [Act.put, List.setIfInBounds_toArray, List.set_cons_zero, List.set_cons_succ, Nat.reduceAdd, List.cons_append, List.nil_append])
    iterate 2 (apply Se.pas_g (fun _ _ h => LowB.of_below h); (focus rfl); (focus (intro w6 hR hD hP K hK; replace hK := Lib.hid hK; skip; clear hR hD hP; go_simp; exact hK.out _ (Below.refl _ _))); simp only [Act.put, List.setIfInBounds_toArray, List.set_cons_zero, List.set_cons_succ, Nat.reduceAdd, List.cons_append, List.nil_append])
    iterate 2 (apply Se.pas_x (fun _ _ h => LowB.of_below h) rfl; (focus rfl); (focus (intro w6 hR hD hP K hK; replace hK := Lib.hid hK; skip; clear hR hD hP; go_simp; exact hK.out _ (Below.refl _ _))); simp only [Act.put, List.setIfInBounds_toArray, List.set_cons_zero, List.set_cons_succ, Nat.reduceAdd, List.cons_append, List.nil_append])
    iterate 2 (apply Se.pas_g (e := undef) (fun _ _ h => LowB.of_below h); (focus rfl); (focus (intro w6 hR hD hP K hK; replace hK := Lib.hid hK; clear hR hD hP; go_simp; exact hK.out _ (Below.refl _ _))); simp only [Act.put, List.setIfInBounds_toArray, List.set_cons_zero, List.set_cons_succ, Nat.reduceAdd, List.cons_append, List.nil_append])
    (apply Se.pas_x (fun _ _ h => LowB.of_below h) rfl; (focus rfl); (focus (intro w6 hR hD hP K hK; replace hK := Lib.hid hK; skip; clear hR hD hP; go_simp; exact hK.out _ (Below.refl _ _))); simp only [Act.put, List.setIfInBounds_toArray, List.set_cons_zero, List.set_cons_succ, Nat.reduceAdd, List.cons_append, List.nil_append])
    (apply Se.pas_s (LowB w.heap.size) (fun _ w3 => w3.heap[w.heap.size]? = some (Obj.cells #[.string nm, .int .i64 nn, .int .i64 cp, .int .i64 mm, .slice pu x.1.length cu, .slice pv y.1.length cv, .bool f] 54 (0, 0)) ∧ Tx (w.heap.size + 1) w3 (.slice pu x.1.length cu) x.1 ∧ Tx (w.heap.size + 1) w3 (.slice pv y.1.length cv) y.1) (fun _ _ h => h) rfl (fun v w1 w2 h k => ⟨block_below h.1 k, h.2.1.below k, h.2.2.below k⟩); (focus rfl); (focus (intro w6 hR hD hP K hK; replace hK := Lib.hid hK; have hq := hP _ (List.mem_cons_self ..) (.inl rfl); have g0 := cell_of_block hq.1 0 _ rfl; have g1 := cell_of_block hq.1 1 _ rfl; have g2 := cell_of_block hq.1 2 _ rfl; have g3 := cell_of_block hq.1 3 _ rfl; have g4 := cell_of_block hq.1 4 _ rfl; have g5 := cell_of_block hq.1 5 _ rfl; have g6 := cell_of_block hq.1 6 _ rfl; have ff := fun j => free_of_block hq.1 j; have HQ := Lib.hid hq; clear hR hD hP hq; go_simp; exact hK.out undef _ (LowB.of_sets (b := w.heap.size) (fun _ => Nat.le_refl _) [.string nm, .int .i64 nn, .int .i64 cp, .int .i64 mm, .slice pu x.1.length cu, .slice pv y.1.length cv, .bool f] 0 w6) ⟨sets7 (.string nm) (.int .i64 nn) (.int .i64 cp) (.int .i64 mm) (.slice pu x.1.length cu) (.slice pv y.1.length cv) (.bool f) HQ.out.1, HQ.out.2.1.gb (Gb.sets' w.heap.size [.string nm, .int .i64 nn, .int .i64 cp, .int .i64 mm, .slice pu x.1.length cu, .slice pv y.1.length cv, .bool f] 0 w6) (Nat.lt_succ_self _), HQ.out.2.2.gb (Gb.sets' w.heap.size [.string nm, .int .i64 nn, .int .i64 cp, .int .i64 mm, .slice pu x.1.length cu, .slice pv y.1.length cv, .bool f] 0 w6) (Nat.lt_succ_self _)⟩)); simp only [Act.put, List.setIfInBounds_toArray, List.set_cons_zero, List.set_cons_succ, Nat.reduceAdd, List.cons_append, List.nil_append])
    refine Se.pas_ends (by simp [Se.AllK]) (by simp [Se.AllK]) fun w6 hR hp _ => ?_
    have h25 : (fun w3 => w3.heap[w.heap.size]? = some (Obj.cells #[.string nm, .int .i64 nn, .int .i64 cp, .int .i64 mm, .slice pu x.1.length cu, .slice pv y.1.length cv, .bool f] 54 (0, 0)) ∧ Tx (w.heap.size + 1) w3 (.slice pu x.1.length cu) x.1 ∧ Tx (w.heap.size + 1) w3 (.slice pv y.1.length cv) y.1) w6 := hp 25 (by simp)
    have H25 := Lib.hid h25
    have HB6 := Lib.hid (HBW.out.drew.trans (hR HBW.out.size))
    clear hp h25 hR
    go_wp2
    have k0 := cell_of_block H25.out.1 0 _ rfl
    have k1 := cell_of_block H25.out.1 1 _ rfl
    have k2 := cell_of_block H25.out.1 2 _ rfl
    have k3 := cell_of_block H25.out.1 3 _ rfl
    have k4 := cell_of_block H25.out.1 4 _ rfl
    have k5 := cell_of_block H25.out.1 5 _ rfl
    have k6 := cell_of_block H25.out.1 6 _ rfl
    refine bodyPost_ret (v := .tuple #[.agg #[.string nm, .int .i64 nn, .int .i64 cp, .int .i64 mm, .slice pu x.1.length cu, .slice pv y.1.length cv, .bool f], .bool (false)]) (by simp [results, Tryz.results66, go_sem, k0, k1, k2, k3, k4, k5, k6]) rfl ⟨[.string nm, .int .i64 nn, .int .i64 cp, .int .i64 mm, .slice pu x.1.length cu, .slice pv y.1.length cv, .bool f], ?_, ?_, HB6.out⟩
    · have : podB s = (false) := by rw [HPB.out, HC1.out, HC2.out, HC5.out, HC6.out, HYY.out]; simp [hyy]
      rw [this]
    · rw [HPX.out]
      exact ⟨.slice pu x.1.length cu, .slice pv y.1.length cv, by rw [← HNM.out], H25.out.2.1.base (Nat.le_succ _), H25.out.2.2.base (Nat.le_succ _)⟩
  · rw [show str [] = ⟨#[]⟩ from rfl]
    go_upto_region 10 with fail
    refine' Se.wp_region_pass (fun w w' => Below w.heap.size w w') (LowB w.heap.size) 26 (by kernel_rfl) (by kernel_rfl) (by kernel_rfl) (by kernel_rfl) (by kernel_rfl) (by kernel_rfl)
      (fun w => LowB.refl _ _) (fun h k => LowB.trans h k) [((fun w3 => w3.heap[w.heap.size]? = some (Obj.cells #[.string nm, .int .i64 nn, .int .i64 cp, .int .i64 mm, .slice pu x.1.length cu, .slice pv y.1.length cv, .bool f] 54 (0, 0)) ∧ Tx (w.heap.size + 1) w3 (.slice pu x.1.length cu) x.1 ∧ Tx (w.heap.size + 1) w3 (.slice pv y.1.length cv) y.1), 25)] [] ?_ ?_ (by simp) (fun vals => ?_)
    case refine'_2 =>
      intro e he
      obtain rfl := List.mem_singleton.1 he
      exact ⟨PREW.out.1, PREW.out.2.1.drew, PREW.out.2.2.drew⟩
    case refine'_3 =>
      intro e he w1' w2' k h
      obtain rfl := List.mem_singleton.1 he
      exact ⟨block_below h.1 k, h.2.1.below k, h.2.2.below k⟩
    rotate_left
    simp only [List.take_succ_cons, List.take_zero, List.drop_succ_cons, List.drop_zero]
    (apply Se.pas_x (fun _ _ h => LowB.of_below h) rfl; (focus rfl); (focus (intro w6 hR hD hP K hK; replace hK := Lib.hid hK; have hq := (hP _ (List.mem_cons_self ..) (.inr (by kernel_rfl))).1; have e0 := cell_of_block hq 0 _ rfl; have e1 := cell_of_block hq 1 _ rfl; have e2 := cell_of_block hq 2 _ rfl; have e3 := cell_of_block hq 3 _ rfl; have e4 := cell_of_block hq 4 _ rfl; have e5 := cell_of_block hq 5 _ rfl; have e6 := cell_of_block hq 6 _ rfl; clear hR hD hP hq; go_simp; exact hK.out _ (Below.refl _ _))); simp only [Act.put, List.setIfInBounds_toArray, List.set_cons_zero, List.set_cons_succ, Nat.reduceAdd, List.cons_append, List.nil_append])
    iterate 2 (apply Se.pas_x (fun _ _ h => LowB.of_below h) rfl; (focus rfl); (focus (intro w6 hR hD hP K hK; replace hK := Lib.hid hK; skip; clear hR hD hP; go_simp; exact hK.out _ (Below.refl _ _))); simp only [Act.put, List.setIfInBounds_toArray, List.set_cons_zero, List.set_cons_succ, Nat.reduceAdd, List.cons_append, List.nil_append])
    (apply Se.pas_g (fun _ _ h => LowB.of_below h); (focus rfl); (focus (intro w6 hR hD hP K hK; replace hK := Lib.hid hK; skip; clear hR hD hP; go_simp; exact hK.out _ (Below.refl _ _))); simp only [Act.put, List.setIfInBounds_toArray, List.set_cons_zero, List.set_cons_succ, Nat.reduceAdd, List.cons_append, List.nil_append])
    iterate 2 (apply Se.pas_x (fun _ _ h => LowB.of_below h) rfl; (focus rfl); (focus (intro w6 hR hD hP K hK; replace hK := Lib.hid hK; skip; clear hR hD hP; go_simp; exact hK.out _ (Below.refl _ _))); simp only [Act.put, List.setIfInBounds_toArray, List.set_cons_zero, List.set_cons_succ, Nat.reduceAdd, List.cons_append, List.nil_append])
    (apply Se.pas_g (fun _ _ h => LowB.of_below h); (focus rfl); (focus (intro w6 hR hD hP K hK; replace hK := Lib.hid hK; skip; clear hR hD hP; go_simp; exact hK.out _ (Below.refl _ _))); simp only [Act.put, List.setIfInBounds_toArray, List.set_cons_zero, List.set_cons_succ, Nat.reduceAdd, List.cons_append, List.nil_append])
    iterate 2 (apply Se.pas_x (fun _ _ h => LowB.of_below h) rfl; (focus rfl); (focus (intro w6 hR hD hP K hK; replace hK := Lib.hid hK; skip; clear hR hD hP; go_simp; exact hK.out _ (Below.refl _ _))); simp only [Act.put, List.setIfInBounds_toArray, List.set_cons_zero, List.set_cons_succ, Nat.reduceAdd, List.cons_append, List.nil_append])
    (apply Se.pas_g (fun _ _ h => LowB.of_below h); (focus rfl); (focus (intro w6 hR hD hP K hK; replace hK := Lib.hid hK; skip; clear hR hD hP; go_simp; exact hK.out _ (Below.refl _ _))); simp only [Act.put, List.setIfInBounds_toArray, List.set_cons_zero, List.set_cons_succ, Nat.reduceAdd, List.cons_append, List.nil_append])
    iterate 2 (apply Se.pas_x (fun _ _ h => LowB.of_below h) rfl; (focus rfl); (focus (intro w6 hR hD hP K hK; replace hK := Lib.hid hK; skip; clear hR hD hP; go_simp; exact hK.out _ (Below.refl _ _))); simp only [Act.put, List.setIfInBounds_toArray, List.set_cons_zero, List.set_cons_succ, Nat.reduceAdd, List.cons_append, List.nil_append])
    (apply Se.pas_g (fun _ _ h => LowB.of_below h); (focus rfl); (focus (intro w6 hR hD hP K hK; replace hK := Lib.hid hK; skip; clear hR hD hP; go_simp; exact hK.out _ (Below.refl _ _))); simp only [Act.put, List.setIfInBounds_toArray, List.set_cons_zero, List.set_cons_succ, Nat.reduceAdd, List.cons_append, List.nil_append])
    iterate 2 (apply Se.pas_x (fun _ _ h => LowB.of_below h) rfl; (focus rfl); (focus (intro w6 hR hD hP K hK; replace hK := Lib.hid hK; skip; clear hR hD hP; go_simp; exact hK.out _ (Below.refl _ _))); simp only [Act.put, List.setIfInBounds_toArray, List.set_cons_zero, List.set_cons_succ, Nat.reduceAdd, List.cons_append, List.nil_append])
    (apply Se.pas_g (fun _ _ h => LowB.of_below h); (focus rfl); (focus (intro w6 hR hD hP K hK; replace hK := Lib.hid hK; skip; clear hR hD hP; go_simp; exact hK.out _ (Below.refl _ _))); simp only [Act.put, List.setIfInBounds_toArray, List.set_cons_zero, List.set_cons_succ, Nat.reduceAdd, List.cons_append, List.nil_append])
    iterate 2 (apply Se.pas_x (fun _ _ h => LowB.of_below h) rfl; (focus rfl); (focus (intro w6 hR hD hP K hK; replace hK := Lib.hid hK; skip; clear hR hD hP; go_simp; exact hK.out _ (Below.refl _ _))); simp only [Act.put, List.setIfInBounds_toArray, List.set_cons_zero, List.set_cons_succ, Nat.reduceAdd, List.cons_append, List.nil_append])
    iterate 2 (apply Se.pas_g (fun _ _ h => LowB.of_below h); (focus rfl); (focus (intro w6 hR hD hP K hK; replace hK := Lib.hid hK; skip; clear hR hD hP; go_simp; exact hK.out _ (Below.refl _ _))); simp only [Act.put, List.setIfInBounds_toArray, List.set_cons_zero, List.set_cons_succ, Nat.reduceAdd, List.cons_append, List.nil_append])
    iterate 2 (apply Se.pas_x (fun _ _ h => LowB.of_below h) rfl; (focus rfl); (focus (intro w6 hR hD hP K hK; replace hK := Lib.hid hK; skip; clear hR hD hP; go_simp; exact hK.out _ (Below.refl _ _))); simp only [Act.put, List.setIfInBounds_toArray, List.set_cons_zero, List.set_cons_succ, Nat.reduceAdd, List.cons_append, List.nil_append])
    (apply Se.pas_g (fun _ _ h => LowB.of_below h); (focus rfl); (focus (intro w6 hR hD hP K hK; replace hK := Lib.hid hK; skip; clear hR hD hP; go_simp; exact hK.out _ (Below.refl _ _))); simp only [Act.put, List.setIfInBounds_toArray, List.set_cons_zero, List.set_cons_succ, Nat.reduceAdd, List.cons_append, List.nil_append])
    (apply Se.pas_g (fun _ _ h => LowB.of_below h); (focus rfl); (focus (intro w6 hR hD hP K hK; replace hK := Lib.hid hK; clear hR hD hP; go_simp; refine (name_any nm HNS.out _).mono ?_; rintro e w' ⟨rfl, hb⟩; exact hK.out _ hb)); simp only [Act.put, List.setIfInBounds_toArray, List.set_cons_zero, List.set_cons_succ, Nat.reduceAdd, List.cons_append, List.nil_append])
    (apply Se.pas_x (fun _ _ h => LowB.of_below h) rfl; (focus rfl); (focus (intro w6 hR hD hP K hK; replace hK := Lib.hid hK; skip; clear hR hD hP; go_simp; exact hK.out _ (Below.refl _ _))); simp only [Act.put, List.setIfInBounds_toArray, List.set_cons_zero, List.set_cons_succ, Nat.reduceAdd, List.cons_append, List.nil_append])
    (apply Se.pas_s (LowB w.heap.size) (fun _ w3 => w3.heap[w.heap.size]? = some (Obj.cells #[.string nm, .int .i64 nn, .int .i64 cp, .int .i64 mm, .slice pu x.1.length cu, .slice pv y.1.length cv, .bool f] 54 (0, 0)) ∧ Tx (w.heap.size + 1) w3 (.slice pu x.1.length cu) x.1 ∧ Tx (w.heap.size + 1) w3 (.slice pv y.1.length cv) y.1) (fun _ _ h => h) rfl (fun v w1 w2 h k => ⟨block_below h.1 k, h.2.1.below k, h.2.2.below k⟩); (focus rfl); (focus (intro w6 hR hD hP K hK; replace hK := Lib.hid hK; have hq := hP _ (List.mem_cons_self ..) (.inl rfl); have g0 := cell_of_block hq.1 0 _ rfl; have g1 := cell_of_block hq.1 1 _ rfl; have g2 := cell_of_block hq.1 2 _ rfl; have g3 := cell_of_block hq.1 3 _ rfl; have g4 := cell_of_block hq.1 4 _ rfl; have g5 := cell_of_block hq.1 5 _ rfl; have g6 := cell_of_block hq.1 6 _ rfl; have ff := fun j => free_of_block hq.1 j; have HQ := Lib.hid hq; clear hR hD hP hq; go_simp; exact hK.out undef _ (LowB.of_sets (b := w.heap.size) (fun _ => Nat.le_refl _) [.string nm, .int .i64 nn, .int .i64 cp, .int .i64 mm, .slice pu x.1.length cu, .slice pv y.1.length cv, .bool f] 0 w6) ⟨sets7 (.string nm) (.int .i64 nn) (.int .i64 cp) (.int .i64 mm) (.slice pu x.1.length cu) (.slice pv y.1.length cv) (.bool f) HQ.out.1, HQ.out.2.1.gb (Gb.sets' w.heap.size [.string nm, .int .i64 nn, .int .i64 cp, .int .i64 mm, .slice pu x.1.length cu, .slice pv y.1.length cv, .bool f] 0 w6) (Nat.lt_succ_self _), HQ.out.2.2.gb (Gb.sets' w.heap.size [.string nm, .int .i64 nn, .int .i64 cp, .int .i64 mm, .slice pu x.1.length cu, .slice pv y.1.length cv, .bool f] 0 w6) (Nat.lt_succ_self _)⟩)); simp only [Act.put, List.setIfInBounds_toArray, List.set_cons_zero, List.set_cons_succ, Nat.reduceAdd, List.cons_append, List.nil_append])
    refine Se.pas_ends (by simp [Se.AllK]) (by simp [Se.AllK]) fun w6 hR hp _ => ?_
    have h25 : (fun w3 => w3.heap[w.heap.size]? = some (Obj.cells #[.string nm, .int .i64 nn, .int .i64 cp, .int .i64 mm, .slice pu x.1.length cu, .slice pv y.1.length cv, .bool f] 54 (0, 0)) ∧ Tx (w.heap.size + 1) w3 (.slice pu x.1.length cu) x.1 ∧ Tx (w.heap.size + 1) w3 (.slice pv y.1.length cv) y.1) w6 := hp 25 (by simp)
    have H25 := Lib.hid h25
    have HB6 := Lib.hid (HBW.out.drew.trans (hR HBW.out.size))
    clear hp h25 hR
    go_wp2
    have k0 := cell_of_block H25.out.1 0 _ rfl
    have k1 := cell_of_block H25.out.1 1 _ rfl
    have k2 := cell_of_block H25.out.1 2 _ rfl
    have k3 := cell_of_block H25.out.1 3 _ rfl
    have k4 := cell_of_block H25.out.1 4 _ rfl
    have k5 := cell_of_block H25.out.1 5 _ rfl
    have k6 := cell_of_block H25.out.1 6 _ rfl
    refine bodyPost_ret (v := .tuple #[.agg #[.string nm, .int .i64 nn, .int .i64 cp, .int .i64 mm, .slice pu x.1.length cu, .slice pv y.1.length cv, .bool f], .bool (nameS nm)]) (by simp [results, Tryz.results66, go_sem, k0, k1, k2, k3, k4, k5, k6]) rfl ⟨[.string nm, .int .i64 nn, .int .i64 cp, .int .i64 mm, .slice pu x.1.length cu, .slice pv y.1.length cv, .bool f], ?_, ?_, HB6.out⟩
    · have : podB s = (nameS nm) := by rw [HPB.out, HC1.out, HC2.out, HC5.out, HC6.out, HYY.out, ← HNM.out]; rfl
      rw [this]
    · rw [HPX.out]
      exact ⟨.slice pu x.1.length cu, .slice pv y.1.length cv, by rw [← HNM.out], H25.out.2.1.base (Nat.le_succ _), H25.out.2.2.base (Nat.le_succ _)⟩
end Go.Proofs.YtikamehjeaoilaaGreatDoor
