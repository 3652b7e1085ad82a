/- A line that is read is the one that is written of what was read: plain. -/
import Derived.Test.YtikamehjeaoilaaGreatDoorJl
import Derived.Deep.DeepCutAuto
set_option linter.unusedVariables false
set_option linter.unusedSimpArgs false
namespace Go.Proofs.YtikamehjeaoilaaGreatDoor
open Go.RowKit

theorem join_split (t : List UInt8) : Lib.join (splitC 32 t) [32] = t := by
  have h := rowT_splitC 32 t
  match hs : splitC 32 t with
  | [] => exact absurd hs (splitC_ne 32 t)
  | n :: ns =>
    rw [hs, rowT_cons] at h
    injection h with _ h
    rw [Lib.join_cons, ← h]
    congr 1
theorem num_back {m : Nat} {l : List UInt8} (h : numP m l = true) : Lib.decDigits (numV l) = l ∧ numV l ≤ m := by
  rw [numV_of h]
  unfold numP at h
  simp only [Bool.and_eq_true, decide_eq_true_eq] at h
  exact ⟨num_dec h.1, h.2.2⟩
theorem num_in {m j : Nat} {ws : List (List UInt8)} (h : numP m (ws.getD j []) = true) : j < ws.length := by
  rcases Nat.lt_or_ge j ws.length with hj | hj
  · exact hj
  · rw [show ws.getD j [] = [] by simp [List.getD_eq_getElem?_getD, hj]] at h
    unfold numP at h
    simp only [Bool.and_eq_true, decide_eq_true_eq] at h
    exact absurd rfl h.1.1
theorem pod_back {s : List UInt8} (h : podB s = true) : podT (podX s) = s ∧ (podX s).good := by
  rw [← podB_is] at h
  obtain ⟨p, hp⟩ := Option.isSome_iff_exists.1 h
  rw [podX_of hp]
  exact ⟨(podP_inv hp).1.symm, (podP_inv hp).2⟩
theorem kind_verb {w : List UInt8} (h : kindOf w ≠ 0) : w = verb (kindOf w) ∧ 1 ≤ kindOf w ∧ kindOf w ≤ 11 := by
  unfold kindOf at h ⊢
  cases hf : verbs.findIdx? (· = w) with
  | none => rw [hf] at h; exact absurd rfl h
  | some i =>
    obtain ⟨hi, hp, _⟩ := List.findIdx?_eq_some_iff_getElem.1 hf
    have hi' : i < 11 := hi
    have hw : verbs[i] = w := of_decide_eq_true hp
    refine ⟨?_, by simp, by simp; omega⟩
    show w = verb (i + 1)
    unfold verb
    rw [Nat.add_sub_cancel, List.getD_eq_getElem?_getD, List.getElem?_eq_getElem hi]
    exact hw.symm
theorem getD_drop (ws : List (List UInt8)) {j : Nat} (h : j < ws.length) : ws.drop j = ws.getD j [] :: ws.drop (j + 1) := by
  rw [List.drop_eq_getElem_cons h, List.getD_eq_getElem?_getD, List.getElem?_eq_getElem h]
  rfl
theorem words3 {ws : List (List UInt8)} (h : 2 < ws.length) : ws = ws.getD 0 [] :: ws.getD 1 [] :: ws.getD 2 [] :: ws.drop 3 := by
  have := getD_drop ws (j := 0) (by omega)
  rw [List.drop_zero, getD_drop ws (j := 0 + 1) (by omega), getD_drop ws (j := 0 + 1 + 1) (by omega)] at this
  exact this
theorem words2 {ws : List (List UInt8)} (h : 1 < ws.length) : ws = ws.getD 0 [] :: ws.getD 1 [] :: ws.drop 2 := by
  have := getD_drop ws (j := 0) (by omega)
  rw [List.drop_zero, getD_drop ws (j := 0 + 1) (by omega)] at this
  exact this
theorem partJ_a {ws : List (List UInt8)} (h : 1 < ws.length) : two1 ws = 2 := by
  show min (1 + 1) ws.length = 2
  omega
theorem words_back (t : List UInt8) (h : evOk t = true) : wordsE (kindS t) (evS t) = splitC 32 t ∧ 1 ≤ kindS t ∧ kindS t ≤ 11 := by
  obtain ⟨ws, hws⟩ : ∃ ws, splitC 32 t = ws := ⟨_, rfl⟩
  have hkd : kindOf (ws.getD 0 []) = kindS t := by rw [← hws]; rfl
  unfold evOk at h
  unfold evS
  rw [hws] at h ⊢
  by_cases h1 : kindS t = 1
  · rw [if_pos h1] at h ⊢
    unfold twoOk at h
    simp only [Bool.and_eq_true] at h
    obtain ⟨⟨ha, hb⟩, -⟩ := h
    rw [ok_a] at ha
    have hl := num_in ha
    rw [partJ_a hl, ok_p] at hb
    have hv := kind_verb (w := ws.getD 0 []) (by rw [hkd, h1]; decide)
    rw [hkd] at hv
    refine ⟨?_, hv.2⟩
    rw [h1] at hv ⊢
    conv => rhs; rw [words2 hl]
    have hp : (ws.drop 2).map (podT ∘ podX) = ws.drop 2 := by
      conv => rhs; rw [← List.map_id (ws.drop 2)]
      exact List.map_congr_left fun x hx => (pod_back (List.all_eq_true.1 hb x hx)).1
    simp only [wordsE, twoE, partJ_a hl, partE, if_true, Int.reduceEq, if_false, List.map_map, hp]
    rw [(num_back ha).1, ← hv.1]
  · by_cases h4 : kindS t = 4
    · rw [if_neg h1, if_pos h4] at h ⊢
      unfold twoOk at h
      simp only [Bool.and_eq_true, decide_eq_true_eq] at h
      obtain ⟨⟨ha, hb⟩, hc⟩ := h
      rw [ok_a] at ha
      have hl := num_in ha
      rw [partJ_a hl, ok_n] at hb
      rw [partJ_a hl] at hc
      simp only [Bool.and_eq_true, decide_eq_true_eq] at hb
      obtain ⟨hb, hl3⟩ := hb
      have hc' : ws.length ≤ min (2 + 1) ws.length := hc
      obtain ⟨n, hn⟩ := Option.isSome_iff_exists.1 hb
      have hv := kind_verb (w := ws.getD 0 []) (by rw [hkd, h4]; decide)
      rw [hkd] at hv
      refine ⟨?_, hv.2⟩
      rw [h4] at hv ⊢
      conv => rhs; rw [words3 hl3, List.drop_eq_nil_of_le (show ws.length ≤ 3 by omega)]
      simp only [wordsE, twoE, partJ_a hl, partE, if_true, Int.reduceEq, if_false, Nat.reduceEqDiff, hn, Option.getD_some]
      rw [(num_back ha).1, ← hv.1, ← (nodeW_inv hn).1]
    · by_cases h5 : kindS t = 5
      · rw [if_neg h1, if_neg h4, if_pos h5] at h ⊢
        unfold twoOk at h
        simp only [Bool.and_eq_true, decide_eq_true_eq] at h
        obtain ⟨⟨ha, hb⟩, hc⟩ := h
        rw [ok_a] at ha
        have hl := num_in ha
        rw [partJ_a hl, ok_m] at hb
        rw [partJ_a hl] at hc
        simp only [Bool.and_eq_true, decide_eq_true_eq] at hb
        obtain ⟨hb, hl3⟩ := hb
        have hc' : ws.length ≤ min (2 + 1) ws.length := hc
        have hv := kind_verb (w := ws.getD 0 []) (by rw [hkd, h5]; decide)
        rw [hkd] at hv
        refine ⟨?_, hv.2⟩
        rw [h5] at hv ⊢
        conv => rhs; rw [words3 hl3, List.drop_eq_nil_of_le (show ws.length ≤ 3 by omega)]
        simp only [wordsE, twoE, partJ_a hl, partE, if_true, Int.reduceEq, if_false, Nat.reduceEqDiff]
        rw [(num_back ha).1, ← hv.1]
      · by_cases h10 : kindS t = 10
        · rw [if_neg h1, if_neg h4, if_neg h5, if_pos h10] at h ⊢
          unfold twoOk at h
          simp only [Bool.and_eq_true, decide_eq_true_eq] at h
          obtain ⟨⟨ha, hb⟩, hc⟩ := h
          rw [ok_a] at ha
          have hl := num_in ha
          rw [partJ_a hl, ok_b] at hb
          rw [partJ_a hl] at hc
          have hl3 := num_in hb
          have hc' : ws.length ≤ min (2 + 1) ws.length := hc
          have hv := kind_verb (w := ws.getD 0 []) (by rw [hkd, h10]; decide)
          rw [hkd] at hv
          refine ⟨?_, hv.2⟩
          rw [h10] at hv ⊢
          conv => rhs; rw [words3 hl3, List.drop_eq_nil_of_le (show ws.length ≤ 3 by omega)]
          simp only [wordsE, twoE, partJ_a hl, partE, if_true, Int.reduceEq, if_false, Nat.reduceEqDiff]
          rw [(num_back ha).1, (num_back hb).1, ← hv.1]
        · rw [if_neg h1, if_neg h4, if_neg h5, if_neg h10] at h ⊢
          unfold oneOk at h
          simp only [Bool.and_eq_true, decide_eq_true_eq, bne_iff_ne] at h
          obtain ⟨⟨h0, ha⟩, hc⟩ := h
          have hl := num_in ha
          have hv := kind_verb h0
          rw [hkd] at hv
          refine ⟨?_, hv.2⟩
          conv => rhs; rw [words2 hl, List.drop_eq_nil_of_le hc]
          simp only [wordsE, if_neg h1, if_neg h4, if_neg h5, if_neg h10]
          rw [(num_back ha).1, ← hv.1]
theorem text_back (t : List UInt8) (h : evOk t = true) : textE (kindS t) (evS t) = t ∧ 1 ≤ kindS t ∧ kindS t ≤ 11 := by
  have hw := words_back t h
  refine ⟨?_, hw.2⟩
  unfold textE
  rw [hw.1, join_split]
end Go.Proofs.YtikamehjeaoilaaGreatDoor
/-! What the laws make of numbers: marks, a pod. -/
set_option linter.unusedVariables false
set_option linter.unusedSimpArgs false
namespace Go.Proofs.YtikamehjeaoilaaGreatDoor
open Go.RowKit

/-- All stands but the listed places of one block. -/
structure But (g : Nat) (ps : List Nat) (w w' : World) : Prop where
  os : w'.os = w.os
  tape : w'.tape = w.tape
  output : w'.output = w.output
  size : w.heap.size ≤ w'.heap.size
  block : ∀ k, k < w.heap.size → k ≠ g → w'.heap[k]? = w.heap[k]?
  row : ∀ (cs : Array Value) (T : TypeId), w.heap[g]? = some (.cells cs T (0, 0)) → ∃ cs', w'.heap[g]? = some (.cells cs' T (0, 0)) ∧ cs'.size = cs.size ∧ ∀ q, q ∉ ps → cs'[q]? = cs[q]?
theorem But.refl (g : Nat) (ps : List Nat) (w : World) : But g ps w w := ⟨rfl, rfl, rfl, Nat.le_refl _, fun _ _ _ => rfl, fun cs T h => ⟨cs, h, rfl, fun _ _ => rfl⟩⟩
theorem But.trans {g : Nat} {ps : List Nat} {a b c : World} (h : But g ps a b) (k : But g ps b c) : But g ps a c :=
  ⟨k.os.trans h.os, k.tape.trans h.tape, k.output.trans h.output, Nat.le_trans h.size k.size, fun i hi hg => (k.block i (Nat.lt_of_lt_of_le hi h.size) hg).trans (h.block i hi hg), fun cs T hc => by
    obtain ⟨c1, h1, h2, h3⟩ := h.row cs T hc
    obtain ⟨c2, k1, k2, k3⟩ := k.row c1 T h1
    exact ⟨c2, k1, k2.trans h2, fun q hq => (k3 q hq).trans (h3 q hq)⟩⟩
theorem But.of_below {g : Nat} {ps : List Nat} {w w' : World} (h : Below w.heap.size w w') : But g ps w w' :=
  ⟨h.os, h.tape, h.output, h.size, fun k hk _ => h.block k hk, fun cs T hc => ⟨cs, block_below hc h, rfl, fun _ _ => rfl⟩⟩
theorem But.mono {g : Nat} {ps qs : List Nat} {w w' : World} (h : But g ps w w') (hs : ∀ q ∈ ps, q ∈ qs) : But g qs w w' :=
  ⟨h.os, h.tape, h.output, h.size, h.block, fun cs T hc => by
    obtain ⟨c1, h1, h2, h3⟩ := h.row cs T hc
    exact ⟨c1, h1, h2, fun q hq => h3 q fun hp => hq (hs q hp)⟩⟩
theorem But.set (w : World) (g q : Nat) (u : Value) : But g [q] w (w.setCell ⟨g, q, none⟩ u) :=
  ⟨rfl, rfl, rfl, by simp [World.setCell], fun k hk hg => Below.heap_setCell _ _ _ _ hg, fun cs T hc => ⟨cs.setIfInBounds q u, heap_setCell_same _ _ _ _ _ _ hc, by simp, fun p hp => by
    have : q ≠ p := fun e => hp (by simp [e])
    simp [Array.getElem?_setIfInBounds, this]⟩⟩
theorem But.cell {g : Nat} {ps : List Nat} {w w' : World} (h : But g ps w w') {cs : Array Value} {T : TypeId} (hc : w.heap[g]? = some (.cells cs T (0, 0))) {q : Nat} (hq : q ∉ ps) {v : Value} (hv : w.cell? ⟨g, q, none⟩ = some v) : w'.cell? ⟨g, q, none⟩ = some v := by
  obtain ⟨c1, h1, h2, h3⟩ := h.row cs T hc
  have e : cs[q]? = some v := by simpa [World.cell?, hc] using hv
  exact cell_of_block h1 q v ((h3 q hq).trans e)
theorem But.still {g : Nat} {ps : List Nat} {w w' : World} {T : TypeId → Prop} {cs : Array Value} {e : TypeId} (h : But g ps w w') (hc : w.heap[g]? = some (.cells cs e (0, 0))) (hT : ¬ T e) : Still T w w' := by
  intro k ds e' he hk
  have hkl : k < w.heap.size := (Array.getElem?_eq_some_iff.1 hk).1
  have hne : k ≠ g := by
    rintro rfl
    rw [hc] at hk
    injection hk with hk
    injection hk with _ hk
    exact hT (hk ▸ he)
  rw [h.block k hkl hne, hk]
theorem Below.but {B g : Nat} {ps : List Nat} {a w w' : World} (h : Below B a w) (k : But g ps w w') (hg : B ≤ g) (hB : B ≤ w.heap.size) : Below B a w' :=
  h.trans ⟨k.os, k.tape, k.output, k.size, fun i hi => k.block i (by omega) (by omega)⟩
theorem Strs.still' {base : Nat} {w w' : World} {v : Value} {l : List ByteArray} (h : Strs base w v l) (k : Still (fun e => e = 9) w w') : Strs base w' v l := own_still h k rfl
theorem PodAt.still' {base : Nat} {w w' : World} {cs : List Value} {p : PodM} (h : PodAt base w cs p) (k : Still (fun e => e = 9) w w') : PodAt base w' cs p := by
  obtain ⟨u, v, e, h1, h2⟩ := h
  exact ⟨u, v, e, h1.still' k, h2.still' k⟩
theorem Ints.still' {base : Nat} {w w' : World} {v : Value} {l : List Int} (h : Ints base w v l) (k : Still (fun e => e = 3) w w') : Ints base w' v l := own_still h k rfl
theorem set7 (w : World) (g : Nat) (cs : Array Value) (T : TypeId) (x0 x1 x2 x3 x4 x5 x6 : Value) (h : w.heap[g]? = some (.cells cs T (0, 0))) (hs : cs.size = 7) :
    (((((((w.setCell ⟨g, 0, none⟩ x0).setCell ⟨g, 1, none⟩ x1).setCell ⟨g, 2, none⟩ x2).setCell ⟨g, 3, none⟩ x3).setCell ⟨g, 4, none⟩ x4).setCell ⟨g, 5, none⟩ x5).setCell ⟨g, 6, none⟩ x6).heap[g]? = some (.cells #[x0, x1, x2, x3, x4, x5, x6] T (0, 0)) ∧
    But g [0, 1, 2, 3, 4, 5, 6] w (((((((w.setCell ⟨g, 0, none⟩ x0).setCell ⟨g, 1, none⟩ x1).setCell ⟨g, 2, none⟩ x2).setCell ⟨g, 3, none⟩ x3).setCell ⟨g, 4, none⟩ x4).setCell ⟨g, 5, none⟩ x5).setCell ⟨g, 6, none⟩ x6) := by
  refine ⟨?_, ?_⟩
  · rw [heap_setCell_same _ _ _ _ _ _ (heap_setCell_same _ _ _ _ _ _ (heap_setCell_same _ _ _ _ _ _ (heap_setCell_same _ _ _ _ _ _ (heap_setCell_same _ _ _ _ _ _ (heap_setCell_same _ _ _ _ _ _ (heap_setCell_same _ _ _ _ _ _ h))))))]
    obtain ⟨l⟩ := cs
    match l, hs with
    | [c0, c1, c2, c3, c4, c5, c6], _ => rfl
  · have k : ∀ (j : Nat) (w : World) (v : Value), j < 7 → But g [0, 1, 2, 3, 4, 5, 6] w (w.setCell ⟨g, j, none⟩ v) := fun j w v hj => (But.set w g j v).mono (by simp; omega)
    exact (((((((k 0 _ _ (by omega)).trans (k 1 _ _ (by omega))).trans (k 2 _ _ (by omega))).trans (k 3 _ _ (by omega))).trans (k 4 _ _ (by omega))).trans (k 5 _ _ (by omega))).trans (k 6 _ _ (by omega)))

theorem within3_any (a m : Int) (hm : 0 < m) (hb : m ≤ 4611686018427387904) (w : World) : Calls Tryz.prog 32 #[.int .i64 a, .int .i64 m] w fun e w' => e = .returned (.int .i64 (a % m)) ∧ w = w' := by
  have t1 := Int.tmod_lt_of_pos a hm
  have t2 := Int.lt_tmod_of_pos a hm
  have hz : (m == 0) = false := beq_eq_false_iff_ne.mpr (by omega)
  have em : Hid (a % m = if a.tmod m < 0 then a.tmod m + m else a.tmod m) := by
    unfold Hid
    have e1 : a % m = (a.tmod m) % m := by
      have := Int.mul_tdiv_add_tmod a m
      calc a % m = (m * a.tdiv m + a.tmod m) % m := by rw [this]
        _ = (a.tmod m) % m := by rw [Int.add_comm, Int.add_mul_emod_self_left]
    rw [e1]
    split
    · rw [← Int.add_emod_right]; exact Int.emod_eq_of_lt (by omega) (by omega)
    · exact Int.emod_eq_of_lt (by omega) (by omega)
  by_cases h : a.tmod m < 0
  · go_enter Tryz.func32, Tryz.ntmps32
    go_wp2
    go_ret
    exact ⟨ret_int (by rw [em.out, if_pos h]), rfl⟩
  · go_enter Tryz.func32, Tryz.ntmps32
    go_wp2
    go_ret
    exact ⟨ret_int (by rw [em.out, if_neg (by omega)]), rfl⟩


theorem within2_any (a m : Int) (hm : 0 < m) (hb : m ≤ 4611686018427387904) (w : World) : Calls Tryz.prog 35 #[.int .i64 a, .int .i64 m] w fun e w' => e = .returned (.int .i64 (a % m)) ∧ w = w' := by
  have t1 := Int.tmod_lt_of_pos a hm
  have t2 := Int.lt_tmod_of_pos a hm
  have hz : (m == 0) = false := beq_eq_false_iff_ne.mpr (by omega)
  have em : Hid (a % m = if a.tmod m < 0 then a.tmod m + m else a.tmod m) := by
    unfold Hid
    have e1 : a % m = (a.tmod m) % m := by
      have := Int.mul_tdiv_add_tmod a m
      calc a % m = (m * a.tdiv m + a.tmod m) % m := by rw [this]
        _ = (a.tmod m) % m := by rw [Int.add_comm, Int.add_mul_emod_self_left]
    rw [e1]
    split
    · rw [← Int.add_emod_right]; exact Int.emod_eq_of_lt (by omega) (by omega)
    · exact Int.emod_eq_of_lt (by omega) (by omega)
  by_cases h : a.tmod m < 0
  · go_enter Tryz.func35, Tryz.ntmps35
    go_wp2
    go_ret
    exact ⟨ret_int (by rw [em.out, if_pos h]), rfl⟩
  · go_enter Tryz.func35, Tryz.ntmps35
    go_wp2
    go_ret
    exact ⟨ret_int (by rw [em.out, if_neg (by omega)]), rfl⟩


def setL : List ByteArray := [⟨#[98, 105, 103]⟩, ⟨#[115, 115, 100]⟩, ⟨#[119, 101, 115, 116]⟩, ⟨#[206, 179]⟩]
/-- Marks by a number: the first k looked at. -/
def setM (n : Int) : Nat → List ByteArray
  | 0 => []
  | k + 1 => if (n / 2 ^ k) % 2 = 1 then setM n k ++ [setL.getD k ByteArray.empty] else setM n k
theorem setM_len (n : Int) : ∀ k, (setM n k).length ≤ k
  | 0 => Nat.le_refl _
  | k + 1 => by
    have := setM_len n k
    unfold setM
    split
    · simp; omega
    · omega

theorem within2_one (a : Int) (h : a % 2 = 1) (w : World) : Calls Tryz.prog 35 #[.int .i64 a, .int .i64 2] w fun e w' => e = .returned (.int .i64 1) ∧ w = w' := by
  refine (within2_any a 2 (by omega) (by omega) w).mono ?_
  rintro e w' ⟨rfl, rfl⟩
  exact ⟨by rw [h], rfl⟩
theorem within2_nil (a : Int) (h : ¬ a % 2 = 1) (w : World) : Calls Tryz.prog 35 #[.int .i64 a, .int .i64 2] w fun e w' => e = .returned (.int .i64 0) ∧ w = w' := by
  refine (within2_any a 2 (by omega) (by omega) w).mono ?_
  rintro e w' ⟨rfl, rfl⟩
  exact ⟨by rw [show a % 2 = 0 by omega], rfl⟩

theorem grown_keep {w w' : World} {row : Option Nat} {g : Nat} {o : Obj} (h : w.grownBy w' row) (hz : w.heap[g]? = some o) (hne : ∀ k, row = some k → k ≠ g) : w'.heap[g]? = some o :=
  (h.block g (Array.getElem?_eq_some_iff.1 hz).1 (fun e => hne g e.symm rfl)).trans hz
theorem setM_yes {n : Int} {k : Nat} (h : n / 2 ^ k % 2 = 1) : setM n (k + 1) = setM n k ++ [setL.getD k ByteArray.empty] := by
  show (if _ then _ else _) = _
  rw [if_pos h]
theorem setM_no {n : Int} {k : Nat} (h : ¬ n / 2 ^ k % 2 = 1) : setM n (k + 1) = setM n k := by
  show (if _ then _ else _) = _
  rw [if_neg h]

set_option maxHeartbeats 1000000 in
set_option maxRecDepth 100000 in
theorem lset_any (n : Int) (w : World) : Calls Tryz.prog 34 #[.int .i64 n] w fun e w' => ∃ v, e = .returned v ∧ Strs w.heap.size w' v (setM n 4) ∧ Below w.heap.size w w' := by
  go_enter Tryz.func34, Tryz.ntmps34
  go_wp2
  generalize hw1 : World.alloc w _ = w1
  have hb1 : Below w.heap.size w w1 := by rw [← hw1]; exact below_alloc' (Below.refl _ _) _
  have z1 : w1.heap[w.heap.size]? = some (.cells #[.string ⟨#[98, 105, 103]⟩, .string ⟨#[115, 115, 100]⟩, .string ⟨#[119, 101, 115, 116]⟩, .string ⟨#[206, 179]⟩] 9 (0, 0)) := by rw [← hw1]; exact alloc_at _ _
  clear hw1
  have HB1 := Lib.hid hb1
  have Z1 := Lib.hid z1
  clear hb1 z1
  go_loopw [4, 5] (fun v i wr => ∃ k : Nat, i = .int .i64 k ∧ k ≤ 4 ∧ Strs (w.heap.size + 1) wr v (setM n k) ∧ Below w.heap.size w wr ∧ wr.heap[w.heap.size]? = some (.cells #[.string ⟨#[98, 105, 103]⟩, .string ⟨#[115, 115, 100]⟩, .string ⟨#[119, 101, 115, 116]⟩, .string ⟨#[206, 179]⟩] 9 (0, 0))) (fun _ i _ => 4 - (intOf i).toNat)
  case atStart => exact ⟨0, rfl, by omega, World.ownsRow_nil _ _ _ _, HB1.out, Z1.out⟩
  case round =>
    obtain ⟨k, rfl, hk, hown, hbw, hz⟩ := hrel
    have HO := Lib.hid hown
    have HB := Lib.hid hbw
    have HZ := Lib.hid hz
    clear hown hbw hz
    by_cases hlt : k < 4
    · have hlt' : (k : Int) < 4 := by omega
      obtain ⟨d, hd⟩ : ∃ d, setL.getD k ByteArray.empty = d := ⟨_, rfl⟩
      have ci : wr.cell? ⟨w.heap.size, k, none⟩ = some (.string d) := cell_of_block HZ.out k _ (by
        match k, hlt, hd with
        | 0, _, hd => cases hd; rfl
        | 1, _, hd => cases hd; rfl
        | 2, _, hd => cases hd; rfl
        | 3, _, hd => cases hd; rfl)
      have HD := Lib.hid hd
      have HL := Lib.hid (setM_len n k)
      clear hd
      by_cases h1 : n / 2 ^ k % 2 = 1
      · have HH := Lib.hid h1
        clear h1
        go_wp2_with (first | (go_at_call 35; refine (within2_one _ HH.out _).mono ?_; rintro r w5 ⟨rfl, rfl⟩) | (at_builtin; refine list_appends elt_strs _ _ rfl rfl rfl rfl (World.ownsRow.alloc HO.out _) (show [Value.string d].length = 1 * 1 from rfl) (news_one' (alloc_at _ _)) (by simp [Value.oneCell']) (by have := HL.out; omega) (by have := (Array.getElem?_eq_some_iff.1 HZ.out).1; simp; omega) ?_; intro v' w6 hown hgrow; have HO6 := Lib.hid hown; have HG6 := Lib.hid hgrow; clear hown hgrow))
        go_roundw
        case rel =>
          have hrow : ∀ k, Value.ownBlock _ = some k → w.heap.size + 1 ≤ k := fun k hk => (HO.out.lt k hk).1
          refine ⟨k + 1, by go_num, by omega, ?_, (below_alloc' HB.out _).grown HG6.out (by have := HB.out.size; simp; omega) (fun k hk => Nat.le_trans (Nat.le_succ _) (hrow k hk)), grown_keep HG6.out (block_below HZ.out (below_alloc' (Below.refl _ _) _)) (fun k hk e => by have := hrow k hk; omega)⟩
          have := HO6.out
          unfold Strs
          rw [setM_yes HH.out, HD.out, List.map_append, List.length_append]
          exact this
        case measure => simp [intOf]; omega
      · have HH := Lib.hid h1
        clear h1
        go_wp2_with (go_at_call 35; refine (within2_nil _ HH.out _).mono ?_; rintro r w5 ⟨rfl, rfl⟩)
        go_roundw
        case rel => exact ⟨k + 1, by go_num, by omega, by rw [setM_no HH.out]; exact HO.out, HB.out, HZ.out⟩
        case measure => simp [intOf]; omega
    · obtain rfl : k = 4 := by omega
      go_wp2
      go_ret
      exact ⟨_, rfl, own_base HO.out (Nat.le_succ _), HB.out⟩

theorem within3_val (a m r : Int) (hm : 0 < m) (hb : m ≤ 4611686018427387904) (hr : a % m = r) (w : World) : Calls Tryz.prog 32 #[.int .i64 a, .int .i64 m] w fun e w' => e = .returned (.int .i64 r) ∧ w = w' := by
  refine (within3_any a m hm hb w).mono ?_
  rintro e w' ⟨rfl, rfl⟩
  exact ⟨by rw [hr], rfl⟩
/-- A pod by a number. -/
def podM (at' : Nat) (n shards : Int) : PodM :=
  ⟨⟨#[112, UInt8.ofNat (97 + at')]⟩, 1 + n % shards, qd n 4 % 5, qd n 20 % 5, if qd n 100 % 5 = 0 then setM (qd n 500) 4 else [], if qd n 7 % 3 = 0 then setM (qd n 11) 4 else [], decide (qd n 13 % 6 = 0)⟩
/-- A pod's block. -/
def PodIn (base g : Nat) (w : World) (p : PodM) : Prop := ∃ u v, w.heap[g]? = some (.cells #[.string p.name, .int .i64 p.shard, .int .i64 p.cpu, .int .i64 p.mem, u, v, .bool p.alone] 54 (0, 0)) ∧ Strs base w u p.picks ∧ Strs base w v p.bears
theorem PodIn.below {base g : Nat} {w w' : World} {p : PodM} (h : PodIn base g w p) (hb : Below w.heap.size w w') : PodIn base g w' p := by
  obtain ⟨u, v, h1, h2, h3⟩ := h
  exact ⟨u, v, block_below h1 hb, own_below h2 hb, own_below h3 hb⟩
theorem PodIn.picks {base g : Nat} {w : World} {p : PodM} (h : PodIn base g w p) {u : Value} {l : List ByteArray} (hu : Strs base w u l) : PodIn base g (w.setCell ⟨g, 4, none⟩ u) { p with picks := l } := by
  obtain ⟨u', v, h1, h2, h3⟩ := h
  have k := (But.set w g 4 u).still h1 (T := fun e => e = 9) (by decide)
  exact ⟨u, v, heap_setCell_same _ _ _ _ _ _ h1, hu.still' k, Strs.still' h3 k⟩
theorem PodIn.bears {base g : Nat} {w : World} {p : PodM} (h : PodIn base g w p) {u : Value} {l : List ByteArray} (hu : Strs base w u l) : PodIn base g (w.setCell ⟨g, 5, none⟩ u) { p with bears := l } := by
  obtain ⟨u', v, h1, h2, h3⟩ := h
  have k := (But.set w g 5 u).still h1 (T := fun e => e = 9) (by decide)
  exact ⟨u', u, heap_setCell_same _ _ _ _ _ _ h1, Strs.still' h2 k, hu.still' k⟩
theorem PodIn.alone {base g : Nat} {w : World} {p : PodM} (h : PodIn base g w p) (b : Bool) : PodIn base g (w.setCell ⟨g, 6, none⟩ (.bool b)) { p with alone := b } := by
  obtain ⟨u, v, h1, h2, h3⟩ := h
  have k := (But.set w g 6 (.bool b)).still h1 (T := fun e => e = 9) (by decide)
  exact ⟨u, v, heap_setCell_same _ _ _ _ _ _ h1, Strs.still' h2 k, Strs.still' h3 k⟩

set_option maxHeartbeats 4000000 in
set_option maxRecDepth 100000 in
theorem pod_any (at' : Nat) (hat : at' < 20) (n shards : Int) (hs : 0 < shards) (hs4 : shards ≤ 4) (w : World) : Calls Tryz.prog 33 #[.int .i64 at', .int .i64 n, .int .i64 shards] w fun e w' => ∃ cs, e = .returned (.agg cs.toArray) ∧ PodAt w.heap.size w' cs (podM at' n shards) ∧ Below w.heap.size w w' := by
  have hat' : (at' : Int) < 20 := by omega
  obtain ⟨bt, hbt, eb⟩ : ∃ bt : UInt8, bt = UInt8.ofNat (97 + at') ∧ (bt.toNat : Int) = 97 + at' := ⟨_, rfl, by
    rw [show (UInt8.ofNat (97 + at')).toNat = (97 + at') % 256 from UInt8.toNat_ofNat', Nat.mod_eq_of_lt (by omega)]; omega⟩
  have EB := Lib.hid eb
  have HBT := Lib.hid hbt
  clear eb hbt
  have k97 : IntKind.i64.wrap (97 + (at' : Int)) = 97 + at' := kwid (by omega) (by omega)
  have k8 : IntKind.u8.wrap (97 + (at' : Int)) = 97 + at' := IntWalk.u8_in _ (by omega)
  have kq1 : IntKind.i64.wrap (1 + n % shards) = 1 + n % shards := by
    have q1 := Int.emod_lt_of_pos n hs
    have q2 := Int.emod_nonneg n (show shards ≠ 0 by omega)
    exact kwid (by omega) (by omega)
  go_enter Tryz.func33, Tryz.ntmps33
  go_wp2
  generalize hw1 : World.alloc w _ = w1
  have hb1 : Below w.heap.size w w1 := by rw [← hw1]; exact below_alloc' (Below.refl _ _) _
  have z1 : w1.heap[w.heap.size]? = some (.cells #[.string ⟨#[]⟩, .int .i64 0, .int .i64 0, .int .i64 0, .slice none 0 0, .slice none 0 0, .bool false] 54 (0, 0)) := by rw [← hw1]; exact alloc_at _ _
  clear hw1
  have HB1 := Lib.hid hb1
  have Z1 := Lib.hid z1
  clear hb1 z1
  refine' Par.wp_region_pars (fun w w' => Below w.heap.size w w') 19 (by kernel_rfl) (by kernel_rfl) (by kernel_rfl) (by kernel_rfl) (by kernel_rfl) (by kernel_rfl)
    (fun w => Below.refl _ w) (fun h k => below_call h k) (fun vals => ?_)
  rotate_left
  simp only [List.take_succ_cons, List.take_zero, List.drop_succ_cons, List.drop_zero]
  iterate 3 (apply Par.par_x rfl; (focus (intro w6 hR hD K hK; replace hK := Lib.hid hK; skip; clear hR hD; go_simp; exact hK.out _ (Below.refl _ _))); simp only [Act.put, List.setIfInBounds_toArray, List.set_cons_zero, List.set_cons_succ, Nat.reduceAdd, List.cons_append, List.nil_append])
  (apply Par.par_r (fun v w' => ∃ g, v = .slice (some ⟨g, 0, none⟩) 1 1 ∧ w'.heap[g]? = some (.cells #[.int .u8 (97 + (at' : Int))] 5 (0, 0))) rfl (row_keep _ _ _); (focus (intro w6 hR hD K hK; replace hK := Lib.hid hK; clear hR hD; go_simp; exact hK.out _ _ (below_alloc' (Below.refl _ _) _) ⟨_, rfl, alloc_at _ _⟩)); simp only [Act.put, List.setIfInBounds_toArray, List.set_cons_zero, List.set_cons_succ, Nat.reduceAdd, List.cons_append, List.nil_append])
  (apply Par.par_x rfl; (focus (intro w6 hR hD K hK; replace hK := Lib.hid hK; obtain ⟨g, eg, hg⟩ : ∃ g, vals 3 = .slice (some ⟨g, 0, none⟩) 1 1 ∧ w6.heap[g]? = some (.cells #[.int .u8 (97 + (at' : Int))] 5 (0, 0)) := hD 3 (by kernel_rfl); simp only [eg] at hK ⊢; have kc : (convert 38 9 (.slice (some ⟨g, 0, none⟩) 1 1)).run Tryz.prog w6 = .ok (.string (str [bt])) w6 := run_convert_bytes_back _ 38 9 5 ⟨g, 0, none⟩ 1 [bt] (by kernel_rfl) (by kernel_rfl) (by kernel_rfl) (fun j hj => by (obtain rfl : j = 0 := by simpa using hj); exact cell_of_block hg 0 _ (by simp [EB.out])); clear hR hD hg eg; go_simp; exact hK.out _ (Below.refl _ _))); simp only [Act.put, List.setIfInBounds_toArray, List.set_cons_zero, List.set_cons_succ, Nat.reduceAdd, List.cons_append, List.nil_append])
  (apply Par.par_x rfl; (focus (intro w6 hR hD K hK; replace hK := Lib.hid hK; have hz : (str [bt]).size = 1 := rfl; clear hR hD; go_simp; exact hK.out _ (Below.refl _ _))); simp only [Act.put, List.setIfInBounds_toArray, List.set_cons_zero, List.set_cons_succ, Nat.reduceAdd, List.cons_append, List.nil_append])
  iterate 2 (apply Par.par_x rfl; (focus (intro w6 hR hD K hK; replace hK := Lib.hid hK; skip; clear hR hD; go_simp; exact hK.out _ (Below.refl _ _))); simp only [Act.put, List.setIfInBounds_toArray, List.set_cons_zero, List.set_cons_succ, Nat.reduceAdd, List.cons_append, List.nil_append])
  (apply Par.par_x rfl; (focus (intro w6 hR hD K hK; replace hK := Lib.hid hK; clear hR hD; go_simp; refine (within3_any n shards hs (by omega) _).mono ?_; rintro r w7 ⟨rfl, rfl⟩; exact hK.out _ (Below.refl _ _))); simp only [Act.put, List.setIfInBounds_toArray, List.set_cons_zero, List.set_cons_succ, Nat.reduceAdd, List.cons_append, List.nil_append])
  (apply Par.par_x rfl; (focus (intro w6 hR hD K hK; replace hK := Lib.hid hK; have q1 := Int.emod_lt_of_pos n hs; have q2 := Int.emod_nonneg n (show shards ≠ 0 by omega); clear hR hD; go_simp; exact hK.out _ (Below.refl _ _))); simp only [Act.put, List.setIfInBounds_toArray, List.set_cons_zero, List.set_cons_succ, Nat.reduceAdd, List.cons_append, List.nil_append])
  iterate 2 (apply Par.par_x rfl; (focus (intro w6 hR hD K hK; replace hK := Lib.hid hK; skip; clear hR hD; go_simp; exact hK.out _ (Below.refl _ _))); simp only [Act.put, List.setIfInBounds_toArray, List.set_cons_zero, List.set_cons_succ, Nat.reduceAdd, List.cons_append, List.nil_append])
  (apply Par.par_x rfl; (focus (intro w6 hR hD K hK; replace hK := Lib.hid hK; clear hR hD; go_simp; refine (within3_any _ 5 (by omega) (by omega) _).mono ?_; rintro r w7 ⟨rfl, rfl⟩; exact hK.out _ (Below.refl _ _))); simp only [Act.put, List.setIfInBounds_toArray, List.set_cons_zero, List.set_cons_succ, Nat.reduceAdd, List.cons_append, List.nil_append])
  iterate 2 (apply Par.par_x rfl; (focus (intro w6 hR hD K hK; replace hK := Lib.hid hK; skip; clear hR hD; go_simp; exact hK.out _ (Below.refl _ _))); simp only [Act.put, List.setIfInBounds_toArray, List.set_cons_zero, List.set_cons_succ, Nat.reduceAdd, List.cons_append, List.nil_append])
  (apply Par.par_x rfl; (focus (intro w6 hR hD K hK; replace hK := Lib.hid hK; clear hR hD; go_simp; refine (within3_any _ 5 (by omega) (by omega) _).mono ?_; rintro r w7 ⟨rfl, rfl⟩; exact hK.out _ (Below.refl _ _))); simp only [Act.put, List.setIfInBounds_toArray, List.set_cons_zero, List.set_cons_succ, Nat.reduceAdd, List.cons_append, List.nil_append])
  iterate 2 (apply Par.par_x rfl; (focus (intro w6 hR hD K hK; replace hK := Lib.hid hK; skip; clear hR hD; go_simp; exact hK.out _ (Below.refl _ _))); simp only [Act.put, List.setIfInBounds_toArray, List.set_cons_zero, List.set_cons_succ, Nat.reduceAdd, List.cons_append, List.nil_append])
  (apply Par.par_r (fun v w' => ∃ g, v = .pointer (some ⟨g, 0, none⟩) ∧ w.heap.size < g ∧ w'.heap[g]? = some (.cells #[.string ⟨#[]⟩, .int .i64 0, .int .i64 0, .int .i64 0, .slice none 0 0, .slice none 0 0, .bool false] 54 (0, 0))) rfl (fun v w1 w2 h k => by obtain ⟨g, h1, h2, h3⟩ := h; exact ⟨g, h1, h2, block_below h3 k⟩); (focus (intro w6 hR hD K hK; replace hK := Lib.hid hK; have hlt : w.heap.size < w6.heap.size := Nat.lt_of_lt_of_le (Array.getElem?_eq_some_iff.1 Z1.out).1 hR.size; have HLT := Lib.hid hlt; clear hR hD hlt; go_simp; exact hK.out _ _ (below_alloc' (Below.refl _ _) _) ⟨_, rfl, HLT.out, alloc_at _ _⟩)); simp only [Act.put, List.setIfInBounds_toArray, List.set_cons_zero, List.set_cons_succ, Nat.reduceAdd, List.cons_append, List.nil_append])
  refine Par.par_end fun w6 hR hp => ?_
  obtain ⟨g, eg, hg, z6⟩ := hp 18 (by simp)
  clear hp
  simp only [eg]
  obtain ⟨nm, hnm⟩ : ∃ nm : ByteArray, nm = ⟨#[112]⟩ ++ str [bt] := ⟨_, rfl⟩
  rw [← hnm]
  have HNM := Lib.hid hnm
  clear hnm
  have n0 := cell_of_block z6 0 _ rfl
  have n1 := cell_of_block z6 1 _ rfl
  have n2 := cell_of_block z6 2 _ rfl
  have n3 := cell_of_block z6 3 _ rfl
  have n4 := cell_of_block z6 4 _ rfl
  have n5 := cell_of_block z6 5 _ rfl
  have n6 := cell_of_block z6 6 _ rfl
  have fr := free_of_block z6
  have Z6 := Lib.hid z6
  have z1' := block_below (w := w1.drew) Z1.out hR
  have hb6 := below_call HB1.out.drew hR
  have Z1' := Lib.hid z1'
  have HB6 := Lib.hid hb6
  clear z6 hR z1' hb6 eg
  obtain ⟨r1, hr1⟩ : ∃ r, qd n 100 % 5 = r := ⟨_, rfl⟩
  obtain ⟨r2, hr2⟩ : ∃ r, qd n 7 % 3 = r := ⟨_, rfl⟩
  obtain ⟨r3, hr3⟩ : ∃ r, qd n 13 % 6 = r := ⟨_, rfl⟩
  have HM := Lib.hid (show podM at' n shards = ⟨nm, 1 + n % shards, qd n 4 % 5, qd n 20 % 5, if r1 = 0 then setM (qd n 500) 4 else [], if r2 = 0 then setM (qd n 11) 4 else [], r3 == 0⟩ by
    unfold podM
    rw [hr1, hr2, hr3, HNM.out, HBT.out]
    rfl)
  have HR1 := Lib.hid hr1
  have HR2 := Lib.hid hr2
  have HR3 := Lib.hid hr3
  clear hr1 hr2 hr3
  go_upto_if 29 with (go_at_call 32; refine (within3_val _ 5 r1 (by omega) (by omega) HR1.out _).mono ?_; rintro r w7 ⟨rfl, rfl⟩)
  obtain ⟨zf, hbf⟩ := set7 w6 g _ _ (.string nm) (.int .i64 (1 + n % shards)) (.int .i64 (qd n 4 % 5)) (.int .i64 (qd n 20 % 5)) (.slice none 0 0) (.slice none 0 0) (.bool false) Z6.out rfl
  generalize hwf : World.setCell _ _ _ = wf at zf hbf ⊢
  clear hwf n0 n1 n2 n3 n4 n5 n6 fr
  have hP : PodIn w.heap.size g wf ⟨nm, 1 + n % shards, qd n 4 % 5, qd n 20 % 5, [], [], false⟩ := ⟨_, _, zf, World.ownsRow_nil _ _ _ _, World.ownsRow_nil _ _ _ _⟩
  have hQ : wf.heap[w.heap.size]? = some (.cells #[.string ⟨#[]⟩, .int .i64 0, .int .i64 0, .int .i64 0, .slice none 0 0, .slice none 0 0, .bool false] 54 (0, 0)) := (hbf.block _ (Array.getElem?_eq_some_iff.1 Z1'.out).1 (by omega)).trans Z1'.out
  have hB : Below w.heap.size w wf := Below.but HB6.out hbf (by omega) HB6.out.size
  have HP := Lib.hid hP
  have HQ := Lib.hid hQ
  have HB := Lib.hid hB
  have hgw : g < wf.heap.size := (Array.getElem?_eq_some_iff.1 zf).1
  have HGW := Lib.hid hgw
  clear hP hQ hB zf hbf HNM HBT EB k97 k8 hgw
  go_cut [] (fun wx => PodIn w.heap.size g wx ⟨nm, 1 + n % shards, qd n 4 % 5, qd n 20 % 5, if r1 = 0 then setM (qd n 500) 4 else [], [], false⟩ ∧ Below w.heap.size w wx ∧ wx.heap[w.heap.size]? = some (.cells #[.string ⟨#[]⟩, .int .i64 0, .int .i64 0, .int .i64 0, .slice none 0 0, .slice none 0 0, .bool false] 54 (0, 0)))
  case first =>
    by_cases h : r1 = 0
    · have hb : (r1 == 0) = true := by rw [h]; rfl
      rw [hb]
      have HE := Lib.hid h
      clear h hb
      go_wp2_with (go_at_call 34; refine (lset_any _ _).mono ?_; rintro r w7 ⟨v, rfl, hv, hb7⟩; obtain ⟨a, l, c, rfl⟩ := own_slice hv; have hP7 := HP.out.below hb7; obtain ⟨_, _, hh, _⟩ := hP7; have c4 := cell_of_block hh 4 _ rfl; have fr := free_of_block hh 4; have HH := Lib.hid hh; have HV := Lib.hid hv; have HB7 := Lib.hid hb7; clear hv hb7 hh)
      go_meet
      rw [if_pos HE.out]
      refine ⟨(HP.out.below HB7.out).picks (own_base HV.out HB.out.size), (below_call HB.out HB7.out).setCell (Nat.le_of_lt hg) _, ?_⟩
      rw [Below.heap_setCell _ _ _ _ (by simp; omega)]
      exact block_below HQ.out HB7.out
    · have hb : (r1 == 0) = false := beq_eq_false_iff_ne.mpr h
      rw [hb]
      have HE := Lib.hid h
      clear h hb
      go_wp2
      go_meet
      rw [if_neg HE.out]
      exact ⟨HP.out, HB.out, HQ.out⟩
  case rest =>
    obtain ⟨hP, hB, hQ⟩ := hcut
    clear HP HQ HB HGW
    have HP := Lib.hid hP
    have HQ := Lib.hid hQ
    have HB := Lib.hid hB
    clear hP hQ hB
    go_upto_if 37 with (go_at_call 32; refine (within3_val _ 3 r2 (by omega) (by omega) HR2.out _).mono ?_; rintro r w7 ⟨rfl, rfl⟩)
    go_cut [] (fun wx => PodIn w.heap.size g wx ⟨nm, 1 + n % shards, qd n 4 % 5, qd n 20 % 5, if r1 = 0 then setM (qd n 500) 4 else [], if r2 = 0 then setM (qd n 11) 4 else [], false⟩ ∧ Below w.heap.size w wx ∧ wx.heap[w.heap.size]? = some (.cells #[.string ⟨#[]⟩, .int .i64 0, .int .i64 0, .int .i64 0, .slice none 0 0, .slice none 0 0, .bool false] 54 (0, 0)))
    case first =>
      by_cases h : r2 = 0
      · have hb : (r2 == 0) = true := by rw [h]; rfl
        rw [hb]
        have HE := Lib.hid h
        clear h hb
        go_wp2_with (go_at_call 34; refine (lset_any _ _).mono ?_; rintro r w7 ⟨v, rfl, hv, hb7⟩; obtain ⟨a, l, c, rfl⟩ := own_slice hv; have hP7 := HP.out.below hb7; obtain ⟨_, _, hh, _⟩ := hP7; have c4 := cell_of_block hh 5 _ rfl; have fr := free_of_block hh 5; have HH := Lib.hid hh; have HV := Lib.hid hv; have HB7 := Lib.hid hb7; clear hv hb7 hh)
        go_meet
        rw [if_pos HE.out]
        refine ⟨(HP.out.below HB7.out).bears (own_base HV.out HB.out.size), (below_call HB.out HB7.out).setCell (Nat.le_of_lt hg) _, ?_⟩
        rw [Below.heap_setCell _ _ _ _ (by simp; omega)]
        exact block_below HQ.out HB7.out
      · have hb : (r2 == 0) = false := beq_eq_false_iff_ne.mpr h
        rw [hb]
        have HE := Lib.hid h
        clear h hb
        go_wp2
        go_meet
        rw [if_neg HE.out]
        exact ⟨HP.out, HB.out, HQ.out⟩
    case rest =>
      obtain ⟨hP, hB, hQ⟩ := hcut
      clear HP HQ HB
      have HP := Lib.hid hP
      have HQ := Lib.hid hQ
      have HB := Lib.hid hB
      obtain ⟨_, _, hh, hu1, hu2⟩ := hP
      obtain ⟨a1, l1, c1, rfl⟩ := own_slice hu1
      obtain ⟨a2, l2, c2, rfl⟩ := own_slice hu2
      have m6 := cell_of_block hh 6 _ rfl
      have fr := free_of_block hh
      have HH := Lib.hid hh
      have HU1 := Lib.hid hu1
      have HU2 := Lib.hid hu2
      clear hB hQ hh hu1 hu2
      go_upto_region 7 with (go_at_call 32; refine (within3_val _ 6 r3 (by omega) (by omega) HR3.out _).mono ?_; rintro r w7 ⟨rfl, rfl⟩)
      have hP8 := PodIn.alone (show PodIn w.heap.size g wc ⟨nm, 1 + n % shards, qd n 4 % 5, qd n 20 % 5, if r1 = 0 then setM (qd n 500) 4 else [], if r2 = 0 then setM (qd n 11) 4 else [], false⟩ from ⟨_, _, HH.out, HU1.out, HU2.out⟩) (r3 == 0)
      have hQ8 := block_below HQ.out (Below.refl wc.heap.size wc)
      rw [← Below.heap_setCell wc ⟨g, 6, none⟩ (.bool (r3 == 0)) w.heap.size (by simp; omega)] at hQ8
      have hB8 := HB.out.setCell (Nat.le_of_lt hg) (p := ⟨g, 6, none⟩) (.bool (r3 == 0))
      generalize hw8 : World.setCell _ _ _ = w8 at hP8 hQ8 hB8 ⊢
      clear hw8 m6 fr HH HU1 HU2 HQ HB
      obtain ⟨_, _, hh, hu1, hu2⟩ := hP8
      obtain ⟨a1, l1, c1, rfl⟩ := own_slice hu1
      obtain ⟨a2, l2, c2, rfl⟩ := own_slice hu2
      have m0 := cell_of_block hh 0 _ rfl
      have m1 := cell_of_block hh 1 _ rfl
      have m2 := cell_of_block hh 2 _ rfl
      have m3 := cell_of_block hh 3 _ rfl
      have m4 := cell_of_block hh 4 _ rfl
      have m5 := cell_of_block hh 5 _ rfl
      have m6 := cell_of_block hh 6 _ rfl
      have n0 := cell_of_block hQ8 0 _ rfl
      have n1 := cell_of_block hQ8 1 _ rfl
      have n2 := cell_of_block hQ8 2 _ rfl
      have n3 := cell_of_block hQ8 3 _ rfl
      have n4 := cell_of_block hQ8 4 _ rfl
      have n5 := cell_of_block hQ8 5 _ rfl
      have n6 := cell_of_block hQ8 6 _ rfl
      have fr := free_of_block hQ8
      have HU1 := Lib.hid hu1
      have HU2 := Lib.hid hu2
      have HB8 := Lib.hid hB8
      have HQ8 := Lib.hid hQ8
      clear hh hu1 hu2 hB8 hQ8
      go_wp2
      obtain ⟨zf, hbf⟩ := set7 w8 w.heap.size _ _ (.string nm) (.int .i64 (1 + n % shards)) (.int .i64 (qd n 4 % 5)) (.int .i64 (qd n 20 % 5)) (.slice a1 l1 c1) (.slice a2 l2 c2) (.bool (r3 == 0)) HQ8.out rfl
      generalize hwf : World.setCell _ _ _ = wf at zf hbf ⊢
      clear hwf m0 m1 m2 m3 m4 m5 m6 n0 n1 n2 n3 n4 n5 n6 fr
      have f0 := cell_of_block zf 0 _ rfl
      have f1 := cell_of_block zf 1 _ rfl
      have f2 := cell_of_block zf 2 _ rfl
      have f3 := cell_of_block zf 3 _ rfl
      have f4 := cell_of_block zf 4 _ rfl
      have f5 := cell_of_block zf 5 _ rfl
      have f6 := cell_of_block zf 6 _ rfl
      have hst := hbf.still (T := fun e => e = 9) HQ8.out (by decide)
      exact bodyPost_ret (v := .agg #[.string nm, .int .i64 (1 + n % shards), .int .i64 (qd n 4 % 5), .int .i64 (qd n 20 % 5), .slice a1 l1 c1, .slice a2 l2 c2, .bool (r3 == 0)]) (by simp [results, Tryz.results33, go_sem, f0, f1, f2, f3, f4, f5, f6]) rfl
        ⟨[.string nm, .int .i64 (1 + n % shards), .int .i64 (qd n 4 % 5), .int .i64 (qd n 20 % 5), .slice a1 l1 c1, .slice a2 l2 c2, .bool (r3 == 0)], rfl, by rw [HM.out]; exact ⟨_, _, rfl, HU1.out.still' hst, HU2.out.still' hst⟩, Below.but HB8.out hbf (Nat.le_refl _) HB8.out.size⟩
end Go.Proofs.YtikamehjeaoilaaGreatDoor
/-! A name, a node, a pod of the laws, as plain lists of bytes. -/
set_option linter.unusedVariables false
set_option linter.unusedSimpArgs false
namespace Go.Proofs.YtikamehjeaoilaaGreatDoor
open Go.RowKit

def name8 : List ByteArray := [⟨#[97]⟩, ⟨#[98]⟩, ⟨#[206, 177]⟩, ⟨#[207, 137, 57]⟩, ⟨#[110, 49]⟩, ⟨#[110, 50]⟩, ⟨#[206, 178, 206, 179, 206, 180, 206, 181, 206, 182, 206, 183, 206, 184, 206, 185]⟩, ⟨#[122, 122]⟩]
def nameOf (n : Int) : ByteArray := name8.getD (n % 8).toNat ByteArray.empty
theorem lname8_any (n : Int) (w : World) : Calls Tryz.prog 14 #[.int .i64 n] w fun e w' => e = .returned (.string (nameOf n)) ∧ Below w.heap.size w w' := by
  have p1 := Int.emod_nonneg n (show (8 : Int) ≠ 0 by omega)
  have p2 := Int.emod_lt_of_pos n (show (0 : Int) < 8 by omega)
  obtain ⟨k, hk⟩ : ∃ k : Nat, n % 8 = k := ⟨(n % 8).toNat, by omega⟩
  have ik : (k : Int) < 8 := by omega
  have HN : Hid (nameOf n = name8.getD k ByteArray.empty) := by unfold Hid nameOf; rw [hk, Int.toNat_natCast]
  have c : (w.alloc (.cells #[.string ⟨#[97]⟩, .string ⟨#[98]⟩, .string ⟨#[206, 177]⟩, .string ⟨#[207, 137, 57]⟩, .string ⟨#[110, 49]⟩, .string ⟨#[110, 50]⟩, .string ⟨#[206, 178, 206, 179, 206, 180, 206, 181, 206, 182, 206, 183, 206, 184, 206, 185]⟩, .string ⟨#[122, 122]⟩] 9)).cell? ⟨w.heap.size, k, none⟩ = some (.string (name8.getD k ByteArray.empty)) :=
    cell_of_block (alloc_at _ _) k _ (by have hk8 : k < 8 := by omega
                                         match k, hk8 with | 0, _ => rfl | 1, _ => rfl | 2, _ => rfl | 3, _ => rfl | 4, _ => rfl | 5, _ => rfl | 6, _ => rfl | 7, _ => rfl)
  generalize name8.getD k ByteArray.empty = s at *
  have HC := Lib.hid c
  have HK := Lib.hid hk
  clear c hk p1 p2
  go_enter Tryz.func14, Tryz.ntmps14
  go_wp2_with ((go_at_call 35; refine (within2_any _ _ (by omega) (by omega) _).mono ?_; rw [HK.out]; rintro e w' ⟨rfl, rfl⟩; have c := HC.out))
  go_ret
  exact ⟨ret_str HN.out.symm, below_alloc' (Below.refl _ _) _⟩

theorem setM_Q (n : Int) : ∀ k, k ≤ 4 → setM n k = (setQ n k).map str
  | 0, _ => rfl
  | k + 1, h => by
    have ih := setM_Q n k (by omega)
    have hl : setL.getD k ByteArray.empty = str (marksT.getD k []) := by
      obtain rfl | rfl | rfl | rfl : k = 0 ∨ k = 1 ∨ k = 2 ∨ k = 3 := by omega
      all_goals rfl
    unfold setM setQ
    rw [hl]
    split
    · rw [List.map_append, ih]; rfl
    · exact ih
theorem setQ_few (n : Int) : ∀ k, k ≤ 4 → (setQ n k).length ≤ k ∧ ∀ l ∈ setQ n k, l.length ≤ 4
  | 0, _ => ⟨Nat.le_refl _, by simp [setQ]⟩
  | k + 1, h => by
    have ih := setQ_few n k (by omega)
    have hl : (marksT.getD k []).length ≤ 4 := by
      obtain rfl | rfl | rfl | rfl : k = 0 ∨ k = 1 ∨ k = 2 ∨ k = 3 := by omega
      all_goals decide
    unfold setQ
    split
    · refine ⟨by rw [List.length_append, List.length_singleton]; omega, fun l hm => ?_⟩
      rcases List.mem_append.1 hm with hm | hm
      · exact ih.2 l hm
      · rw [List.mem_singleton.1 hm]; exact hl
    · exact ⟨by omega, ih.2⟩
theorem few_if {c : Prop} [Decidable c] (n : Int) : few (if c then setQ n 4 else []) := by
  split
  · have := setQ_few n 4 (by omega)
    exact ⟨by omega, fun x hx => by have := this.2 x hx; omega⟩
  · exact ⟨Nat.zero_le _, by simp⟩
theorem map_if {c : Prop} [Decidable c] (n : Int) : (if c then setM n 4 else []) = (if c then setQ n 4 else []).map str := by
  split
  · exact setM_Q n 4 (by omega)
  · rfl
theorem nameOf_Q (n : Int) : nameOf n = str (nameQ n) := by
  have h1 := Int.emod_nonneg n (show (8 : Int) ≠ 0 by decide)
  have h2 := Int.emod_lt_of_pos n (show (0 : Int) < 8 by decide)
  unfold nameOf nameQ
  obtain h | h | h | h | h | h | h | h : (n % 8).toNat = 0 ∨ (n % 8).toNat = 1 ∨ (n % 8).toNat = 2 ∨ (n % 8).toNat = 3 ∨ (n % 8).toNat = 4 ∨ (n % 8).toNat = 5 ∨ (n % 8).toNat = 6 ∨ (n % 8).toNat = 7 := by omega
  all_goals (rw [h]; rfl)
/-- A pod of the laws as the play texts have it. -/
theorem podT_of {base : Nat} {w : World} {cs : List Value} {at' : Nat} {n shards : Int} (hs : 0 < shards) (h : PodAt base w cs (podM at' n shards)) : PodT base w cs (podQ at' n shards) := by
  obtain ⟨u, v, rfl, h1, h2⟩ := h
  have q1 := Int.emod_nonneg n (show shards ≠ 0 by omega)
  have q2 := Int.emod_nonneg (qd n 4) (show (5 : Int) ≠ 0 by decide)
  have q3 := Int.emod_nonneg (qd n 20) (show (5 : Int) ≠ 0 by decide)
  refine ⟨u, v, ?_, ?_, ?_⟩
  · show [_, Value.int .i64 (1 + n % shards), Value.int .i64 (qd n 4 % 5), Value.int .i64 (qd n 20 % 5), _, _, _] = [_, Value.int .i64 ((1 + n % shards).toNat : Int), Value.int .i64 ((qd n 4 % 5).toNat : Int), Value.int .i64 ((qd n 20 % 5).toNat : Int), _, _, _]
    rw [Int.toNat_of_nonneg (by omega), Int.toNat_of_nonneg q2, Int.toNat_of_nonneg q3]
    rfl
  · refine Tx.of_strs ?_ (few_if _)
    have := h1
    unfold podM at this
    dsimp only at this
    rw [map_if] at this
    exact this
  · refine Tx.of_strs ?_ (few_if _)
    have := h2
    unfold podM at this
    dsimp only at this
    rw [map_if] at this
    exact this
theorem lpod_any (at' : Nat) (hat : at' < 20) (n shards : Int) (hs : 0 < shards) (hs4 : shards ≤ 4) (w : World) : Calls Tryz.prog 33 #[.int .i64 at', .int .i64 n, .int .i64 shards] w fun e w' => ∃ cs, e = .returned (.agg cs.toArray) ∧ PodT w.heap.size w' cs (podQ at' n shards) ∧ Below w.heap.size w w' := by
  refine (pod_any at' hat n shards hs hs4 w).mono ?_
  rintro e w' ⟨cs, h1, h2, h3⟩
  exact ⟨cs, h1, podT_of hs h2, h3⟩
theorem lsetQ_any (n : Int) (w : World) : Calls Tryz.prog 34 #[.int .i64 n] w fun e w' => ∃ v, e = .returned v ∧ Strs w.heap.size w' v ((setQ n 4).map str) ∧ Below w.heap.size w w' := by
  refine (lset_any n w).mono ?_
  rintro e w' ⟨v, h1, h2, h3⟩
  rw [setM_Q n 4 (by omega)] at h2
  exact ⟨v, h1, h2, h3⟩
end Go.Proofs.YtikamehjeaoilaaGreatDoor
/-! A node of the laws, by numbers. -/
set_option linter.unusedVariables false
set_option linter.unusedSimpArgs false
namespace Go.Proofs.YtikamehjeaoilaaGreatDoor
open Go.RowKit

theorem node_at {base : Nat} {w : World} {name n r1 r2 r3 : Int} {zn : ByteArray} {u x : Value} (h0 : str (nameQ name) = zn) (h1 : n % 12 = r1) (h2 : qd n 12 % 12 = r2) (h3 : qd n 17 % 9 = r3) (hu : Strs base w u ((setQ (qd n 144) 4).map str)) (hx : Strs base w x ((if qd n 23 % 3 = 0 then setQ (qd n 31) 4 else []).map str)) :
    NodeAt base w (.agg #[.string zn, .int .i64 r1, .int .i64 r2, u, x, .bool (r3 == 0)]) (nodeQ name n) := by
  have q1 := Int.emod_nonneg n (show (12 : Int) ≠ 0 by decide)
  have q2 := Int.emod_nonneg (qd n 12) (show (12 : Int) ≠ 0 by decide)
  subst h0 h1 h2 h3
  refine ⟨u, x, ?_, hu, hx⟩
  unfold nodeQ
  dsimp only
  rw [Int.toNat_of_nonneg q1, Int.toNat_of_nonneg q2]
  rfl
set_option maxHeartbeats 4000000 in
set_option maxRecDepth 100000 in
theorem lnode_any (name n : Int) (w : World) : Calls Tryz.prog 13 #[.int .i64 name, .int .i64 n] w fun e w' => ∃ v, e = .returned v ∧ NodeAt w.heap.size w' v (nodeQ name n) ∧ Below w.heap.size w w' := by
  go_enter Tryz.func13, Tryz.ntmps13
  go_wp2_with fail
  refine (lname8_any name _).mono ?_
  rintro e w1 ⟨rfl, hb1⟩
  rw [nameOf_Q]
  obtain ⟨zn, hzn⟩ : ∃ z, str (nameQ name) = z := ⟨_, rfl⟩
  rw [hzn]
  have HZN := Lib.hid hzn
  have hr1 := block_below (alloc_at w (.cells #[.string ⟨#[]⟩, .int .i64 0, .int .i64 0, .slice none 0 0, .slice none 0 0, .bool false] 31)) hb1
  have HRE := Lib.hid hr1
  have HB1 := Lib.hid (below_call (below_alloc' (Below.refl _ _) _) hb1)
  clear hzn hb1 hr1
  go_wp2_with fail
  refine (within3_any n 12 (by omega) (by omega) _).mono ?_
  rintro e wx ⟨rfl, rfl⟩
  obtain ⟨r1, hr1⟩ : ∃ r, n % 12 = r := ⟨_, rfl⟩
  rw [hr1]
  have HR1 := Lib.hid hr1
  clear hr1
  go_wp2_with fail
  refine (within3_any (qd n 12) 12 (by omega) (by omega) _).mono ?_
  rintro e wx ⟨rfl, rfl⟩
  obtain ⟨r2, hr2⟩ : ∃ r, qd n 12 % 12 = r := ⟨_, rfl⟩
  rw [hr2]
  have HR2 := Lib.hid hr2
  clear hr2
  go_wp2_with fail
  refine (lsetQ_any (qd n 144) _).mono ?_
  rintro e w2 ⟨u, rfl, hu, hb2⟩
  obtain ⟨au, lu, cu, rfl⟩ := own_slice hu
  have HU := Lib.hid (own_base hu HB1.out.size)
  have HRF := Lib.hid (block_below HRE.out hb2)
  have HB2 := Lib.hid (below_call HB1.out hb2)
  clear hu hb2
  go_wp2_with fail
  refine (within3_any (qd n 17) 9 (by omega) (by omega) _).mono ?_
  rintro e wx ⟨rfl, rfl⟩
  obtain ⟨r3, hr3⟩ : ∃ r, qd n 17 % 9 = r := ⟨_, rfl⟩
  rw [hr3]
  have HR3 := Lib.hid hr3
  clear hr3
  go_wp2_with fail
  refine (within3_any (qd n 23) 3 (by omega) (by omega) _).mono ?_
  rintro e w4 ⟨rfl, hw4⟩
  have hz4 : w4.heap[w2.heap.size]? = some (.cells #[.string zn, .int .i64 r1, .int .i64 r2, .slice au lu cu, .slice none 0 0, .bool (r3 == 0)] 31 (0, 0)) := by rw [← hw4]; exact alloc_at _ _
  have hba : Below w2.heap.size w2 w4 := by rw [← hw4]; exact below_alloc' (Below.refl _ _) _
  clear hw4
  have hr4' := block_below HRF.out hba
  have hu4 := own_below HU.out hba
  have hb4 := below_call HB2.out hba
  have hlt : w.heap.size < w2.heap.size := (Array.getElem?_eq_some_iff.1 HRF.out).1
  obtain ⟨r4, hr4⟩ : ∃ r, qd n 23 % 3 = r := ⟨_, rfl⟩
  rw [hr4]
  have HR4 := Lib.hid hr4
  clear hr4 hba
  by_cases h0 : r4 = 0
  · have hbt : (r4 == 0) = true := by rw [h0]; rfl
    have HZ4 := Lib.hid hz4
    have HRG := Lib.hid hr4'
    have HU4 := Lib.hid hu4
    have HB4 := Lib.hid hb4
    clear hz4 hr4' hu4 hb4
    go_wp2_with fail
    refine (lsetQ_any (qd n 31) _).mono ?_
    rintro e w5 ⟨x, rfl, hx, hb5⟩
    obtain ⟨ax, lx, cx, rfl⟩ := own_slice hx
    have hz5 := block_below HZ4.out hb5
    have hz6 := heap_setCell_same w5 w2.heap.size 4 _ _ (.slice ax lx cx) hz5
    have hr6 := (Below.heap_setCell w5 ⟨w2.heap.size, 4, none⟩ (.slice ax lx cx) w.heap.size (by simp; omega)).trans (block_below HRG.out hb5)
    have hu6 := own_gbx (own_below HU4.out hb5) hz5 (by decide) (Gb.set w5 w2.heap.size 4 (.slice ax lx cx))
    have hx6 := own_gbx (own_base hx HB4.out.size) hz5 (by decide) (Gb.set w5 w2.heap.size 4 (.slice ax lx cx))
    have hb6 := (below_call HB4.out hb5).setCell (p := ⟨w2.heap.size, 4, none⟩) (show w.heap.size ≤ w2.heap.size by omega) (.slice ax lx cx)
    have c4 := cell_of_block hz5 4 _ rfl
    have fz := free_of_block hz5 4
    clear hz5 hx hb5
    have k0 := cell_of_block hz6 0 _ rfl
    have m0 := cell_of_block hr6 0 _ rfl
    have k1 := cell_of_block hz6 1 _ rfl
    have m1 := cell_of_block hr6 1 _ rfl
    have k2 := cell_of_block hz6 2 _ rfl
    have m2 := cell_of_block hr6 2 _ rfl
    have k3 := cell_of_block hz6 3 _ rfl
    have m3 := cell_of_block hr6 3 _ rfl
    have k4 := cell_of_block hz6 4 _ rfl
    have m4 := cell_of_block hr6 4 _ rfl
    have k5 := cell_of_block hz6 5 _ rfl
    have m5 := cell_of_block hr6 5 _ rfl
    have fm := fun j => free_of_block hr6 j
    have HRR := Lib.hid hr6
    have HOU := Lib.hid hu6
    have HOX := Lib.hid hx6
    have HBB := Lib.hid hb6
    clear hz6 hr6 hu6 hx6 hb6
    go_wp2
    have fb := sets6 (.string zn) (.int .i64 r1) (.int .i64 r2) (.slice au lu cu) (.slice ax lx cx) (.bool (r3 == 0)) HRR.out
    have gb := below_sets (b := w.heap.size) (Nat.le_refl _) [.string zn, .int .i64 r1, .int .i64 r2, .slice au lu cu, .slice ax lx cx, .bool (r3 == 0)] 0 (w5.setCell ⟨w2.heap.size, 4, none⟩ (.slice ax lx cx)) HBB.out
    have p1 := own_sets (b := w.heap.size) (by decide) [.string zn, .int .i64 r1, .int .i64 r2, .slice au lu cu, .slice ax lx cx, .bool (r3 == 0)] 0 (w5.setCell ⟨w2.heap.size, 4, none⟩ (.slice ax lx cx)) _ HRR.out HOU.out
    have p2 := own_sets (b := w.heap.size) (by decide) [.string zn, .int .i64 r1, .int .i64 r2, .slice au lu cu, .slice ax lx cx, .bool (r3 == 0)] 0 (w5.setCell ⟨w2.heap.size, 4, none⟩ (.slice ax lx cx)) _ HRR.out HOX.out
    obtain ⟨W2, hW2⟩ : ∃ W2, ((w5.setCell ⟨w2.heap.size, 4, none⟩ (.slice ax lx cx))).setCells w.heap.size 0 [.string zn, .int .i64 r1, .int .i64 r2, .slice au lu cu, .slice ax lx cx, .bool (r3 == 0)] = W2 := ⟨_, rfl⟩
    rw [hW2] at fb gb p1 p2
    refine bp_at hW2 ?_
    clear hW2
    have j0 := cell_of_block fb 0 _ rfl
    have j1 := cell_of_block fb 1 _ rfl
    have j2 := cell_of_block fb 2 _ rfl
    have j3 := cell_of_block fb 3 _ rfl
    have j4 := cell_of_block fb 4 _ rfl
    have j5 := cell_of_block fb 5 _ rfl
    refine bodyPost_ret (v := .agg #[.string zn, .int .i64 r1, .int .i64 r2, .slice au lu cu, .slice ax lx cx, .bool (r3 == 0)]) (by simp [results, Tryz.results13, go_sem, j0, j1, j2, j3, j4, j5]) rfl ⟨_, rfl, node_at HZN.out HR1.out HR2.out HR3.out p1 ?_, gb⟩
    rw [HR4.out, if_pos h0]
    exact p2
  · have hbt : (r4 == 0) = false := beq_eq_false_iff_ne.2 h0
    have hx4 : Strs w.heap.size w4 (.slice none 0 0) (([] : List (List UInt8)).map str) := World.ownsRow_nil _ _ _ _
    have k0 := cell_of_block hz4 0 _ rfl
    have m0 := cell_of_block hr4' 0 _ rfl
    have k1 := cell_of_block hz4 1 _ rfl
    have m1 := cell_of_block hr4' 1 _ rfl
    have k2 := cell_of_block hz4 2 _ rfl
    have m2 := cell_of_block hr4' 2 _ rfl
    have k3 := cell_of_block hz4 3 _ rfl
    have m3 := cell_of_block hr4' 3 _ rfl
    have k4 := cell_of_block hz4 4 _ rfl
    have m4 := cell_of_block hr4' 4 _ rfl
    have k5 := cell_of_block hz4 5 _ rfl
    have m5 := cell_of_block hr4' 5 _ rfl
    have fm := fun j => free_of_block hr4' j
    have HRR := Lib.hid hr4'
    have HOU := Lib.hid hu4
    have HOX := Lib.hid hx4
    have HBB := Lib.hid hb4
    clear hz4 hr4' hu4 hx4 hb4
    go_wp2
    have fb := sets6 (.string zn) (.int .i64 r1) (.int .i64 r2) (.slice au lu cu) (.slice none 0 0) (.bool (r3 == 0)) HRR.out
    have gb := below_sets (b := w.heap.size) (Nat.le_refl _) [.string zn, .int .i64 r1, .int .i64 r2, .slice au lu cu, .slice none 0 0, .bool (r3 == 0)] 0 w4 HBB.out
    have p1 := own_sets (b := w.heap.size) (by decide) [.string zn, .int .i64 r1, .int .i64 r2, .slice au lu cu, .slice none 0 0, .bool (r3 == 0)] 0 w4 _ HRR.out HOU.out
    have p2 := own_sets (b := w.heap.size) (by decide) [.string zn, .int .i64 r1, .int .i64 r2, .slice au lu cu, .slice none 0 0, .bool (r3 == 0)] 0 w4 _ HRR.out HOX.out
    obtain ⟨W2, hW2⟩ : ∃ W2, (w4).setCells w.heap.size 0 [.string zn, .int .i64 r1, .int .i64 r2, .slice au lu cu, .slice none 0 0, .bool (r3 == 0)] = W2 := ⟨_, rfl⟩
    rw [hW2] at fb gb p1 p2
    refine bp_at hW2 ?_
    clear hW2
    have j0 := cell_of_block fb 0 _ rfl
    have j1 := cell_of_block fb 1 _ rfl
    have j2 := cell_of_block fb 2 _ rfl
    have j3 := cell_of_block fb 3 _ rfl
    have j4 := cell_of_block fb 4 _ rfl
    have j5 := cell_of_block fb 5 _ rfl
    refine bodyPost_ret (v := .agg #[.string zn, .int .i64 r1, .int .i64 r2, .slice au lu cu, .slice none 0 0, .bool (r3 == 0)]) (by simp [results, Tryz.results13, go_sem, j0, j1, j2, j3, j4, j5]) rfl ⟨_, rfl, node_at HZN.out HR1.out HR2.out HR3.out p1 ?_, gb⟩
    rw [HR4.out, if_neg h0]
    exact p2
end Go.Proofs.YtikamehjeaoilaaGreatDoor
/-! The reference's digits, numbers, rows, flags. -/
set_option linter.unusedVariables false
set_option linter.unusedSimpArgs false
namespace Go.Proofs.YtikamehjeaoilaaGreatDoor
open Go.RowKit

theorem nDigits_le : ∀ (k u : Nat), u < 10 ^ (k + 1) → Lib.nDigits u ≤ k + 1
  | 0, u, h => by rw [Lib.nDigits_small (by simpa using h)]; omega
  | k + 1, u, h => by
    by_cases hs : u < 10
    · rw [Lib.nDigits_small hs]; omega
    · rw [Lib.nDigits_big hs]
      have := nDigits_le k (u / 10) (by rw [Nat.pow_succ] at h; omega)
      omega
theorem dec_size (n : Nat) (h : n ≤ 9223372036854775807) : (str (Lib.decDigits n)).size ≤ 19 := by
  rw [str_size, Lib.decDigits_length]
  exact nDigits_le 18 n (by omega)
set_option maxRecDepth 100000 in
theorem digits_nat : ∀ (n : Nat), n ≤ 9223372036854775807 → ∀ (w : World), Calls Tryz.prog 16 #[.int .i64 n] w fun e w' => e = .returned (.string (str (Lib.decDigits n))) ∧ Below w.heap.size w w' := by
  intro n
  induction n using Nat.strongRecOn with
  | ind n ih =>
    intro hn w
    by_cases h : n < 10
    · have hi : ¬ (10 : Int) ≤ (n : Int) := by omega
      have h0 : ¬ (n : Int) < 0 := by omega
      clear ih
      have k48 : IntKind.i64.wrap (48 + (n : Int)) = 48 + n := kwid (by omega) (by omega)
      have k8 : IntKind.u8.wrap (48 + (n : Int)) = 48 + n := IntWalk.u8_in _ (by omega)
      obtain ⟨bt, hbt, eb⟩ : ∃ bt : UInt8, bt = UInt8.ofNat (48 + n) ∧ (bt.toNat : Int) = 48 + n := ⟨_, rfl, by
        rw [show (UInt8.ofNat (48 + n)).toNat = (48 + n) % 256 from UInt8.toNat_ofNat', Nat.mod_eq_of_lt (by omega)]; omega⟩
      have kc : (convert 38 9 (.slice (some ⟨w.heap.size, 0, none⟩) 1 1)).run Tryz.prog (w.alloc (.cells #[.int .u8 (48 + (n : Int))] 5)) = .ok (.string (str [bt])) (w.alloc (.cells #[.int .u8 (48 + (n : Int))] 5)) :=
        run_convert_bytes_back _ 38 9 5 ⟨w.heap.size, 0, none⟩ 1 [bt] (by kernel_rfl) (by kernel_rfl) (by kernel_rfl) (fun j hj => by
          obtain rfl : j = 0 := by simpa using hj
          exact cell_of_block (alloc_at _ _) 0 _ (by simp [eb]))
      have HBT := Lib.hid hbt
      clear hbt eb
      go_enter Tryz.func16, Tryz.ntmps16
      go_wp2
      go_ret
      exact ⟨ret_str (by rw [Lib.decDigits_one h, HBT.out]), below_alloc' (Below.refl _ _) _⟩
    · have hi : (10 : Int) ≤ (n : Int) := by omega
      have h0 : ¬ (n : Int) < 0 := by omega
      have i1 := ih (n / 10) (by omega) (by omega)
      have i2 := ih (n % 10) (by omega) (by omega)
      rw [show ((n / 10 : Nat) : Int) = (n : Int) / 10 by omega] at i1
      rw [show ((n % 10 : Nat) : Int) = (n : Int) % 10 by omega] at i2
      obtain ⟨s1, hs1, z1⟩ : ∃ s1, s1 = str (Lib.decDigits (n / 10)) ∧ s1.size ≤ 19 := ⟨_, rfl, dec_size _ (by omega)⟩
      obtain ⟨s2, hs2, z2⟩ : ∃ s2, s2 = str (Lib.decDigits (n % 10)) ∧ s2.size ≤ 19 := ⟨_, rfl, dec_size _ (by omega)⟩
      rw [← hs1] at i1
      rw [← hs2] at i2
      have S1 := Lib.hid hs1
      have S2 := Lib.hid hs2
      clear hs1 hs2
      have I1 := Lib.hid i1
      have I2 := Lib.hid i2
      clear ih i1 i2
      have hone := Lib.hid (Lib.decDigits_one (show n % 10 < 10 by omega))
      go_enter Tryz.func16, Tryz.ntmps16
      go_wp2_with (first | (go_at_call 16; refine (I1.out _).mono ?_; rintro r w1 ⟨rfl, hb⟩; have HB1 := Lib.hid hb; clear hb I1) | (go_at_call 16; refine (I2.out _).mono ?_; rintro r w2 ⟨rfl, hb⟩; have HB2 := Lib.hid hb; clear hb I2))
      go_ret
      refine ⟨ret_str ?_, below_call HB1.out HB2.out⟩
      rw [S1.out, S2.out, str_append, hone.out, Lib.decDigits.eq_1 n, dif_neg h]

set_option maxHeartbeats 4000000 in
set_option maxRecDepth 100000 in
theorem rvec_any (a b : Nat) (ha : a ≤ 9223372036854775807) (hb0 : b ≤ 9223372036854775807) (w : World) : Calls Tryz.prog 36 #[.agg #[.int .i64 a, .int .i64 b]] w fun e w' => e = .returned (.string (str (vecT a b))) ∧ Below w.heap.size w w' := by
  go_enter Tryz.func36, Tryz.ntmps36
  go_wp2_with fail
  have hz1 : (w.alloc (.cells #[.int .i64 a, .int .i64 b] 28)).heap[w.heap.size]? = some (.cells #[.int .i64 a, .int .i64 b] 28 (0, 0)) := alloc_at _ _
  have hb1 : Below w.heap.size w (w.alloc (.cells #[.int .i64 a, .int .i64 b] 28)) := below_alloc' (Below.refl _ _) _
  generalize World.alloc w _ = w1 at hz1 hb1 ⊢
  obtain ⟨d1, hd1⟩ : ∃ d, str (Lib.decDigits a) = d := ⟨_, rfl⟩
  obtain ⟨d2, hd2⟩ : ∃ d, str (Lib.decDigits b) = d := ⟨_, rfl⟩
  have l1 : d1.size ≤ 21 := by rw [← hd1, str_size]; exact dec_len' a ha
  have l2 : d2.size ≤ 21 := by rw [← hd2, str_size]; exact dec_len' b hb0
  have a1 : ¬ 9223372036854775807 < d1.size + 1 := by omega
  have a2 : ¬ 9223372036854775807 < d1.size + 1 + d2.size := by omega
  have HD1 := Lib.hid hd1
  have HD2 := Lib.hid hd2
  have hs : ∀ w6, Below w1.drew.heap.size w1.drew w6 → w6.cell? ⟨w.heap.size, 0, none⟩ = some (.int .i64 a) ∧ w6.cell? ⟨w.heap.size, 1, none⟩ = some (.int .i64 b) := fun w6 h => by
    have hz := block_below (w := w1.drew) hz1 h
    exact ⟨cell_of_block hz 0 _ rfl, cell_of_block hz 1 _ rfl⟩
  have HS := Lib.hid hs
  have HB1 := Lib.hid hb1
  clear hd1 hd2 hs hb1 hz1
  refine' Par.wp_region_pars (fun w w' => Below w.heap.size w w') 9 (by kernel_rfl) (by kernel_rfl) (by kernel_rfl) (by kernel_rfl) (by kernel_rfl) (by kernel_rfl)
    (fun w => Below.refl _ w) (fun h k => below_call h k) (fun vals => ?_)
  rotate_left
  simp only [List.take_succ_cons, List.take_zero, List.drop_succ_cons, List.drop_zero]
  (apply Par.par_x rfl; (focus (intro w6 hR hD K hK; replace hK := Lib.hid hK; skip; clear hR hD; go_simp; exact hK.out _ (Below.refl _ _))); simp only [Act.put, List.setIfInBounds_toArray, List.set_cons_zero, List.set_cons_succ, Nat.reduceAdd, List.cons_append, List.nil_append])
  (apply Par.par_x rfl; (focus (intro w6 hR hD K hK; replace hK := Lib.hid hK; obtain ⟨e0, e1⟩ := HS.out w6 hR; clear hR hD; go_simp; exact hK.out _ (Below.refl _ _))); simp only [Act.put, List.setIfInBounds_toArray, List.set_cons_zero, List.set_cons_succ, Nat.reduceAdd, List.cons_append, List.nil_append])
  (apply Par.par_x rfl; (focus (intro w6 hR hD K hK; replace hK := Lib.hid hK; clear hR hD; go_simp; refine (digits_nat a ha w6).mono ?_; rw [HD1.out]; rintro r w7 ⟨rfl, hb⟩; exact hK.out _ hb)); simp only [Act.put, List.setIfInBounds_toArray, List.set_cons_zero, List.set_cons_succ, Nat.reduceAdd, List.cons_append, List.nil_append])
  iterate 2 (apply Par.par_x rfl; (focus (intro w6 hR hD K hK; replace hK := Lib.hid hK; skip; clear hR hD; go_simp; exact hK.out _ (Below.refl _ _))); simp only [Act.put, List.setIfInBounds_toArray, List.set_cons_zero, List.set_cons_succ, Nat.reduceAdd, List.cons_append, List.nil_append])
  (apply Par.par_x rfl; (focus (intro w6 hR hD K hK; replace hK := Lib.hid hK; obtain ⟨e0, e1⟩ := HS.out w6 hR; clear hR hD; go_simp; exact hK.out _ (Below.refl _ _))); simp only [Act.put, List.setIfInBounds_toArray, List.set_cons_zero, List.set_cons_succ, Nat.reduceAdd, List.cons_append, List.nil_append])
  (apply Par.par_x rfl; (focus (intro w6 hR hD K hK; replace hK := Lib.hid hK; clear hR hD; go_simp; refine (digits_nat b hb0 w6).mono ?_; rw [HD2.out]; rintro r w7 ⟨rfl, hb⟩; exact hK.out _ hb)); simp only [Act.put, List.setIfInBounds_toArray, List.set_cons_zero, List.set_cons_succ, Nat.reduceAdd, List.cons_append, List.nil_append])
  iterate 2 (apply Par.par_x rfl; (focus (intro w6 hR hD K hK; replace hK := Lib.hid hK; skip; clear hR hD; go_simp; exact hK.out _ (Below.refl _ _))); simp only [Act.put, List.setIfInBounds_toArray, List.set_cons_zero, List.set_cons_succ, Nat.reduceAdd, List.cons_append, List.nil_append])
  refine Par.par_end fun w6 hR hp => ?_
  clear hp
  have HB6 := Lib.hid (below_call HB1.out.drew hR)
  clear hR HS
  go_wp2
  go_ret
  refine ⟨ret_str ?_, HB6.out⟩
  rw [← HD1.out, ← HD2.out, show (⟨#[44]⟩ : ByteArray) = str [44] from rfl, str_append, str_append]
  simp [vecT]
theorem rflag_any (b : Bool) (w : World) : Calls Tryz.prog 38 #[.bool b] w fun e w' => e = .returned (.string (str (flagT b))) ∧ w = w' := by
  cases b
  all_goals
    go_enter Tryz.func38, Tryz.ntmps38
    go_wp2
    go_ret
    exact ⟨rfl, rfl⟩
set_option maxHeartbeats 4000000 in
set_option maxRecDepth 100000 in
theorem rrow_any (c : UInt8) (v : Value) (ls : List (List UInt8)) (w : World) (h : Rows w v ls) (hl : (rowT c ls).length ≤ 4294967000) : Calls Tryz.prog 37 #[.string ⟨#[c]⟩, v] w fun e w' => e = .returned (.string (str (rowT c ls))) ∧ w = w' := by
  obtain ⟨a, cp, rfl, hn, hc⟩ := h
  obtain ⟨n, hnn⟩ : ∃ n, ls.length = n := ⟨_, rfl⟩
  rw [hnn] at hn
  rw [hnn]
  have HN := Lib.hid hnn
  have HC := Lib.hid hc
  have HL := Lib.hid hl
  clear hnn hc hl
  go_enter Tryz.func37, Tryz.ntmps37
  go_wp2_with fail
  go_loopw [5, 6] (fun u x wr => ∃ i : Nat, x = .int .i64 i ∧ i ≤ n ∧ u = .string (str (rowT c (ls.take i))) ∧ wr = w) (fun _ x _ => n - (intOf x).toNat)
  case atStart => exact ⟨0, rfl, Nat.zero_le _, rfl, rfl⟩
  case round =>
    obtain ⟨i, rfl, hi, rfl, rfl⟩ := hrel
    by_cases hin : i < n
    · have hil : i < ls.length := by rw [HN.out]; exact hin
      have hin' : (i : Int) < n := by omega
      obtain ⟨b, off, rfl, hcc⟩ := HC.out i hil
      have hnx := rowT_next (c := c) hil
      have hle := rowT_le c ls (i + 1)
      rw [hnx, List.length_append] at hle
      have hll := HL.out
      obtain ⟨t1, ht1⟩ : ∃ z, str (rowT c (ls.take i)) = z := ⟨_, rfl⟩
      obtain ⟨t2, ht2⟩ : ∃ z, str ls[i] = z := ⟨_, rfl⟩
      have s1 : t1.size = (rowT c (ls.take i)).length := by rw [← ht1, str_size]
      have s2 : t2.size = ls[i].length := by rw [← ht2, str_size]
      have s3 : ¬ 9223372036854775807 < t1.size + 1 := by simp at hle; omega
      have s4 : ¬ 9223372036854775807 < t1.size + 1 + t2.size := by simp at hle; omega
      have s5 : (⟨#[c]⟩ : ByteArray).size = 1 := rfl
      rw [ht1]
      rw [ht2] at hcc
      have HT1 := Lib.hid ht1
      have HT2 := Lib.hid ht2
      have HNX := Lib.hid hnx
      clear hnx hle hll ht1 ht2 s1 s2
      go_wp2_with fail
      go_roundw
      case rel =>
        refine ⟨i + 1, by go_num, by omega, ?_, trivial⟩
        rw [HNX.out, ← HT1.out, ← HT2.out, show (⟨#[c]⟩ : ByteArray) = str [c] from rfl, str_append, str_append]
        simp
      case measure => simp [intOf]; omega
    · have hie : i = n := by omega
      subst hie
      have htk : ls.take i = ls := by rw [← HN.out, List.take_length]
      rw [htk]
      have hin' : ¬ (i : Int) < i := by omega
      go_wp2_with fail
      go_ret
      exact ⟨rfl, rfl⟩
end Go.Proofs.YtikamehjeaoilaaGreatDoor
