/- The text of a message, by the reference. -/
import Derived.Test.YtpkkjonajimefaaDoorT
set_option linter.unusedVariables false
set_option linter.unusedSimpArgs false
namespace Go.Proofs.YtpkkjonajimefaaDoor
open Go.RowKit

def Int63 (n : Int) : Prop := -9223372036854775807 ≤ n ∧ n ≤ 9223372036854775807
theorem Int63.wide {n : Int} (h : Int63 n) : Int64 n := ⟨by have := h.1; omega, h.2⟩
theorem wordL_len (k : Int) : (wordL k).length ≤ 100 := by
  unfold wordL
  split
  · exact words_len _
  · decide

theorem rwords {j : Nat} (hj : j < 11) : (#[.string ⟨#[63]⟩, .string ⟨#[104, 111, 108, 100]⟩, .string ⟨#[104, 101, 108, 100]⟩, .string ⟨#[112, 114, 101, 112, 97, 114, 101]⟩, .string ⟨#[118, 111, 116, 101]⟩, .string ⟨#[100, 101, 99, 105, 100, 101]⟩, .string ⟨#[97, 99, 107]⟩, .string ⟨#[97, 115, 107]⟩, .string ⟨#[116, 101, 108, 108]⟩, .string ⟨#[102, 114, 101, 101]⟩, .string ⟨#[102, 114, 101, 101, 100]⟩] : Array Value)[j]? = some (.string (str (wordL (j : Int)))) := by
  match j, hj with
  | 0, _ => rw [show ((0 : Nat) : Int) = 0 from rfl, word_out (by decide)]; rfl
  | 1, _ => rw [show ((1 : Nat) : Int) = ((0 : Nat) : Int) + 1 from rfl, word_in (by decide)]; rfl
  | 2, _ => rw [show ((2 : Nat) : Int) = ((1 : Nat) : Int) + 1 from rfl, word_in (by decide)]; rfl
  | 3, _ => rw [show ((3 : Nat) : Int) = ((2 : Nat) : Int) + 1 from rfl, word_in (by decide)]; rfl
  | 4, _ => rw [show ((4 : Nat) : Int) = ((3 : Nat) : Int) + 1 from rfl, word_in (by decide)]; rfl
  | 5, _ => rw [show ((5 : Nat) : Int) = ((4 : Nat) : Int) + 1 from rfl, word_in (by decide)]; rfl
  | 6, _ => rw [show ((6 : Nat) : Int) = ((5 : Nat) : Int) + 1 from rfl, word_in (by decide)]; rfl
  | 7, _ => rw [show ((7 : Nat) : Int) = ((6 : Nat) : Int) + 1 from rfl, word_in (by decide)]; rfl
  | 8, _ => rw [show ((8 : Nat) : Int) = ((7 : Nat) : Int) + 1 from rfl, word_in (by decide)]; rfl
  | 9, _ => rw [show ((9 : Nat) : Int) = ((8 : Nat) : Int) + 1 from rfl, word_in (by decide)]; rfl
  | 10, _ => rw [show ((10 : Nat) : Int) = ((9 : Nat) : Int) + 1 from rfl, word_in (by decide)]; rfl

set_option maxHeartbeats 4000000 in
set_option maxRecDepth 100000 in
theorem rtext_any (w : World) (k a b c : Int) (u x : Value) (y : Bool) (hk : Int64 k) (ha : Int63 a) (hb : Int63 b) (hc : Int63 c) :
    Calls Tryd.prog 14 #[.agg #[.int .i64 k, .int .i64 a, .int .i64 b, .int .i64 c, u, x, .bool y]] w fun e w' => e = .returned (.string (str (textOf k a b c y))) ∧ Below w.heap.size w w' := by
  have HA := Lib.hid ha
  have HB := Lib.hid hb
  have HC := Lib.hid hc
  obtain ⟨da, hda, za⟩ : ∃ da, da = str (Lib.itoa a) ∧ da.size ≤ 20 := ⟨_, rfl, by rw [str_size]; exact itoa_len a ha.wide.1 ha.wide.2⟩
  obtain ⟨db, hdb, zb⟩ : ∃ db, db = str (Lib.itoa b) ∧ db.size ≤ 20 := ⟨_, rfl, by rw [str_size]; exact itoa_len b hb.wide.1 hb.wide.2⟩
  obtain ⟨dc, hdc, zc⟩ : ∃ dc, dc = str (Lib.itoa c) ∧ dc.size ≤ 20 := ⟨_, rfl, by rw [str_size]; exact itoa_len c hc.wide.1 hc.wide.2⟩
  obtain ⟨wd, hwd, zw⟩ : ∃ wd, wd = str (wordL k) ∧ wd.size ≤ 100 := ⟨_, rfl, by rw [str_size]; exact wordL_len k⟩
  obtain ⟨p1, hp1, z1⟩ : ∃ p, wd ++ ⟨#[32]⟩ = p ∧ p.size ≤ 101 := ⟨_, rfl, by rw [ByteArray.size_append]; show wd.size + 1 ≤ _; omega⟩
  obtain ⟨p2, hp2, z2⟩ : ∃ p, p1 ++ da = p ∧ p.size ≤ 121 := ⟨_, rfl, by rw [ByteArray.size_append]; omega⟩
  obtain ⟨p3, hp3, z3⟩ : ∃ p, p2 ++ ⟨#[32]⟩ = p ∧ p.size ≤ 122 := ⟨_, rfl, by rw [ByteArray.size_append]; show p2.size + 1 ≤ _; omega⟩
  obtain ⟨p4, hp4, z4⟩ : ∃ p, p3 ++ db = p ∧ p.size ≤ 142 := ⟨_, rfl, by rw [ByteArray.size_append]; omega⟩
  obtain ⟨p5, hp5, z5⟩ : ∃ p, p4 ++ ⟨#[32]⟩ = p ∧ p.size ≤ 143 := ⟨_, rfl, by rw [ByteArray.size_append]; show p4.size + 1 ≤ _; omega⟩
  obtain ⟨p6, hp6, z6⟩ : ∃ p, p5 ++ dc = p ∧ p.size ≤ 163 := ⟨_, rfl, by rw [ByteArray.size_append]; omega⟩
  have n1 : ¬ 9223372036854775807 < wd.size + 1 := by omega
  have n2 : ¬ 9223372036854775807 < p1.size + da.size := by omega
  have n3 : ¬ 9223372036854775807 < p2.size + 1 := by omega
  have n4 : ¬ 9223372036854775807 < p3.size + db.size := by omega
  have n5 : ¬ 9223372036854775807 < p4.size + 1 := by omega
  have n6 : ¬ 9223372036854775807 < p5.size + dc.size := by omega
  have n7 : ¬ 9223372036854775807 < p6.size + 4 := by omega
  have HW := Lib.hid hwd
  have HDA := Lib.hid hda
  have HDB := Lib.hid hdb
  have HDC := Lib.hid hdc
  have HALL : Hid (p6 ++ (if y then ⟨#[32, 121, 101, 115]⟩ else ByteArray.empty) = str (textOf k a b c y)) := by
    show _ = _
    rw [← hp6, ← hp5, ← hp4, ← hp3, ← hp2, ← hp1, hwd, hda, hdb, hdc]
    have e1 : (⟨#[32]⟩ : ByteArray) = str [32] := rfl
    have e2 : (if y then ⟨#[32, 121, 101, 115]⟩ else ByteArray.empty : ByteArray) = str (if y then [32, 121, 101, 115] else []) := by cases y <;> rfl
    rw [e1, e2]
    simp only [str_append, textOf]
    congr 1
    simp
  obtain ⟨hk0, hk1⟩ := hk
  clear ha hb hc hda hdb hdc hwd
  by_cases h1 : k < 0
  · go_enter Tryd.func14, Tryd.ntmps14
    go_wp2
    generalize hw2 : World.alloc (World.alloc w _) _ = w2
    have hb2 : Below w.heap.size w w2 := by rw [← hw2]; exact below_alloc' (below_alloc' (Below.refl _ _) _) _
    have z0 : w2.heap[w.heap.size]? = some (.cells #[.int .i64 k, .int .i64 a, .int .i64 b, .int .i64 c, u, x, .bool y] 26 (0, 0)) := by rw [← hw2, Below.heap_alloc _ _ _ (by simp)]; exact alloc_at _ _
    have zl : w2.heap[w.heap.size + 1]? = some (.cells #[.string ⟨#[63]⟩, .string ⟨#[104, 111, 108, 100]⟩, .string ⟨#[104, 101, 108, 100]⟩, .string ⟨#[112, 114, 101, 112, 97, 114, 101]⟩, .string ⟨#[118, 111, 116, 101]⟩, .string ⟨#[100, 101, 99, 105, 100, 101]⟩, .string ⟨#[97, 99, 107]⟩, .string ⟨#[97, 115, 107]⟩, .string ⟨#[116, 101, 108, 108]⟩, .string ⟨#[102, 114, 101, 101]⟩, .string ⟨#[102, 114, 101, 101, 100]⟩] 9 (0, 0)) := by rw [← hw2]; exact alloc_second _ _ _
    clear hw2
    have cw : w2.cell? ⟨w.heap.size + 1, 0, none⟩ = some (.string wd) := by
      rw [HW.out]
      rw [word_out (by omega)]
      exact cell_of_block zl 0 _ rfl
    have hs : ∀ w6, Below w2.drew.heap.size w2.drew w6 → w6.cell? ⟨w.heap.size + 1, 0, none⟩ = some (.string wd) ∧ w6.cell? ⟨w.heap.size, 1, none⟩ = some (.int .i64 a) ∧ w6.cell? ⟨w.heap.size, 2, none⟩ = some (.int .i64 b) ∧ w6.cell? ⟨w.heap.size, 3, none⟩ = some (.int .i64 c) := fun w6 h =>
      ⟨cell_below (w := w2.drew) cw h, cell_below (w := w2.drew) (cell_of_block z0 1 _ rfl) h, cell_below (w := w2.drew) (cell_of_block z0 2 _ rfl) h, cell_below (w := w2.drew) (cell_of_block z0 3 _ rfl) h⟩
    have HS := Lib.hid hs
    have Z0 := Lib.hid z0
    have HB2 := Lib.hid hb2
    clear hs z0 zl hb2 cw
    refine' Par.wp_region_pars (fun w w' => Below w.heap.size w w') 19 (by kernel_rfl) (by kernel_rfl) (by kernel_rfl) (by kernel_rfl) (by kernel_rfl) (by kernel_rfl)
      (fun w => Below.refl _ w) (fun h k => below_call h k) (fun vals => ?_)
    rotate_left
    simp only [List.take_succ_cons, List.take_zero, List.drop_succ_cons, List.drop_zero]
    (apply Par.par_x rfl; (focus (intro w6 hR hD K hK; replace hK := Lib.hid hK; obtain ⟨e1, e2, e3, e4⟩ := HS.out w6 hR; clear hR hD; go_simp; exact hK.out _ (Below.refl _ _))); simp only [Act.put, List.setIfInBounds_toArray, List.set_cons_zero, List.set_cons_succ, Nat.reduceAdd, List.cons_append, List.nil_append])
    (apply Par.par_x rfl; (focus (intro w6 hR hD K hK; replace hK := Lib.hid hK; obtain ⟨e1, e2, e3, e4⟩ := HS.out w6 hR; clear hR hD; go_simp; exact hK.out _ (Below.refl _ _))); simp only [Act.put, List.setIfInBounds_toArray, List.set_cons_zero, List.set_cons_succ, Nat.reduceAdd, List.cons_append, List.nil_append])
    (apply Par.par_x rfl; (focus (intro w6 hR hD K hK; replace hK := Lib.hid hK; obtain ⟨e1, e2, e3, e4⟩ := HS.out w6 hR; clear hR hD; go_simp; exact hK.out _ (Below.refl _ _))); simp only [Act.put, List.setIfInBounds_toArray, List.set_cons_zero, List.set_cons_succ, Nat.reduceAdd, List.cons_append, List.nil_append])
    (apply Par.par_x rfl; (focus (intro w6 hR hD K hK; replace hK := Lib.hid hK; obtain ⟨e1, e2, e3, e4⟩ := HS.out w6 hR; clear hR hD; go_simp; exact hK.out _ (Below.refl _ _))); simp only [Act.put, List.setIfInBounds_toArray, List.set_cons_zero, List.set_cons_succ, Nat.reduceAdd, List.cons_append, List.nil_append])
    (apply Par.par_x rfl; (focus (intro w6 hR hD K hK; replace hK := Lib.hid hK; obtain ⟨e1, e2, e3, e4⟩ := HS.out w6 hR; clear hR hD; go_simp; exact hK.out _ (Below.refl _ _))); simp only [Act.put, List.setIfInBounds_toArray, List.set_cons_zero, List.set_cons_succ, Nat.reduceAdd, List.cons_append, List.nil_append])
    (apply Par.par_x rfl; (focus (intro w6 hR hD K hK; replace hK := Lib.hid hK; obtain ⟨e1, e2, e3, e4⟩ := HS.out w6 hR; clear hR hD; go_simp; exact hK.out _ (Below.refl _ _))); simp only [Act.put, List.setIfInBounds_toArray, List.set_cons_zero, List.set_cons_succ, Nat.reduceAdd, List.cons_append, List.nil_append])
    (apply Par.par_x rfl; (focus (intro w6 hR hD K hK; replace hK := Lib.hid hK; obtain ⟨e1, e2, e3, e4⟩ := HS.out w6 hR; clear hR hD; go_simp; exact hK.out _ (Below.refl _ _))); simp only [Act.put, List.setIfInBounds_toArray, List.set_cons_zero, List.set_cons_succ, Nat.reduceAdd, List.cons_append, List.nil_append])
    (apply Par.par_x rfl; (focus (intro w6 hR hD K hK; replace hK := Lib.hid hK; clear hR hD; go_simp; refine (digits_any a HA.out.1 HA.out.2 _).mono ?_; rw [← HDA.out]; rintro r w7 ⟨rfl, hb⟩; exact hK.out _ hb)); simp only [Act.put, List.setIfInBounds_toArray, List.set_cons_zero, List.set_cons_succ, Nat.reduceAdd, List.cons_append, List.nil_append])
    (apply Par.par_x rfl; (focus (intro w6 hR hD K hK; replace hK := Lib.hid hK; obtain ⟨e1, e2, e3, e4⟩ := HS.out w6 hR; clear hR hD; go_simp; exact hK.out _ (Below.refl _ _))); simp only [Act.put, List.setIfInBounds_toArray, List.set_cons_zero, List.set_cons_succ, Nat.reduceAdd, List.cons_append, List.nil_append])
    (apply Par.par_x rfl; (focus (intro w6 hR hD K hK; replace hK := Lib.hid hK; obtain ⟨e1, e2, e3, e4⟩ := HS.out w6 hR; clear hR hD; go_simp; exact hK.out _ (Below.refl _ _))); simp only [Act.put, List.setIfInBounds_toArray, List.set_cons_zero, List.set_cons_succ, Nat.reduceAdd, List.cons_append, List.nil_append])
    (apply Par.par_x rfl; (focus (intro w6 hR hD K hK; replace hK := Lib.hid hK; obtain ⟨e1, e2, e3, e4⟩ := HS.out w6 hR; clear hR hD; go_simp; exact hK.out _ (Below.refl _ _))); simp only [Act.put, List.setIfInBounds_toArray, List.set_cons_zero, List.set_cons_succ, Nat.reduceAdd, List.cons_append, List.nil_append])
    (apply Par.par_x rfl; (focus (intro w6 hR hD K hK; replace hK := Lib.hid hK; obtain ⟨e1, e2, e3, e4⟩ := HS.out w6 hR; clear hR hD; go_simp; exact hK.out _ (Below.refl _ _))); simp only [Act.put, List.setIfInBounds_toArray, List.set_cons_zero, List.set_cons_succ, Nat.reduceAdd, List.cons_append, List.nil_append])
    (apply Par.par_x rfl; (focus (intro w6 hR hD K hK; replace hK := Lib.hid hK; clear hR hD; go_simp; refine (digits_any b HB.out.1 HB.out.2 _).mono ?_; rw [← HDB.out]; rintro r w7 ⟨rfl, hb⟩; exact hK.out _ hb)); simp only [Act.put, List.setIfInBounds_toArray, List.set_cons_zero, List.set_cons_succ, Nat.reduceAdd, List.cons_append, List.nil_append])
    (apply Par.par_x rfl; (focus (intro w6 hR hD K hK; replace hK := Lib.hid hK; obtain ⟨e1, e2, e3, e4⟩ := HS.out w6 hR; clear hR hD; go_simp; exact hK.out _ (Below.refl _ _))); simp only [Act.put, List.setIfInBounds_toArray, List.set_cons_zero, List.set_cons_succ, Nat.reduceAdd, List.cons_append, List.nil_append])
    (apply Par.par_x rfl; (focus (intro w6 hR hD K hK; replace hK := Lib.hid hK; obtain ⟨e1, e2, e3, e4⟩ := HS.out w6 hR; clear hR hD; go_simp; exact hK.out _ (Below.refl _ _))); simp only [Act.put, List.setIfInBounds_toArray, List.set_cons_zero, List.set_cons_succ, Nat.reduceAdd, List.cons_append, List.nil_append])
    (apply Par.par_x rfl; (focus (intro w6 hR hD K hK; replace hK := Lib.hid hK; obtain ⟨e1, e2, e3, e4⟩ := HS.out w6 hR; clear hR hD; go_simp; exact hK.out _ (Below.refl _ _))); simp only [Act.put, List.setIfInBounds_toArray, List.set_cons_zero, List.set_cons_succ, Nat.reduceAdd, List.cons_append, List.nil_append])
    (apply Par.par_x rfl; (focus (intro w6 hR hD K hK; replace hK := Lib.hid hK; obtain ⟨e1, e2, e3, e4⟩ := HS.out w6 hR; clear hR hD; go_simp; exact hK.out _ (Below.refl _ _))); simp only [Act.put, List.setIfInBounds_toArray, List.set_cons_zero, List.set_cons_succ, Nat.reduceAdd, List.cons_append, List.nil_append])
    (apply Par.par_x rfl; (focus (intro w6 hR hD K hK; replace hK := Lib.hid hK; clear hR hD; go_simp; refine (digits_any c HC.out.1 HC.out.2 _).mono ?_; rw [← HDC.out]; rintro r w7 ⟨rfl, hb⟩; exact hK.out _ hb)); simp only [Act.put, List.setIfInBounds_toArray, List.set_cons_zero, List.set_cons_succ, Nat.reduceAdd, List.cons_append, List.nil_append])
    (apply Par.par_x rfl; (focus (intro w6 hR hD K hK; replace hK := Lib.hid hK; obtain ⟨e1, e2, e3, e4⟩ := HS.out w6 hR; clear hR hD; go_simp; exact hK.out _ (Below.refl _ _))); simp only [Act.put, List.setIfInBounds_toArray, List.set_cons_zero, List.set_cons_succ, Nat.reduceAdd, List.cons_append, List.nil_append])
    refine Par.par_end fun w6 hR hp => ?_
    clear hp
    have c6 : w6.cell? ⟨w.heap.size, 6, none⟩ = some (.bool y) := cell_of_block (block_below (w := w2.drew) Z0.out hR) 6 _ rfl
    have HB6 := Lib.hid (below_call HB2.out.drew hR)
    clear hR
    cases y
    · go_wp2
      go_ret
      refine ⟨ret_str ?_, HB6.out⟩
      rw [← HALL.out]
      simp
    · go_wp2
      go_ret
      exact ⟨ret_str HALL.out, HB6.out⟩
  · by_cases h2 : 11 ≤ k
    · go_enter Tryd.func14, Tryd.ntmps14
      go_wp2
      generalize hw2 : World.alloc (World.alloc w _) _ = w2
      have hb2 : Below w.heap.size w w2 := by rw [← hw2]; exact below_alloc' (below_alloc' (Below.refl _ _) _) _
      have z0 : w2.heap[w.heap.size]? = some (.cells #[.int .i64 k, .int .i64 a, .int .i64 b, .int .i64 c, u, x, .bool y] 26 (0, 0)) := by rw [← hw2, Below.heap_alloc _ _ _ (by simp)]; exact alloc_at _ _
      have zl : w2.heap[w.heap.size + 1]? = some (.cells #[.string ⟨#[63]⟩, .string ⟨#[104, 111, 108, 100]⟩, .string ⟨#[104, 101, 108, 100]⟩, .string ⟨#[112, 114, 101, 112, 97, 114, 101]⟩, .string ⟨#[118, 111, 116, 101]⟩, .string ⟨#[100, 101, 99, 105, 100, 101]⟩, .string ⟨#[97, 99, 107]⟩, .string ⟨#[97, 115, 107]⟩, .string ⟨#[116, 101, 108, 108]⟩, .string ⟨#[102, 114, 101, 101]⟩, .string ⟨#[102, 114, 101, 101, 100]⟩] 9 (0, 0)) := by rw [← hw2]; exact alloc_second _ _ _
      clear hw2
      have cw : w2.cell? ⟨w.heap.size + 1, 0, none⟩ = some (.string wd) := by
        rw [HW.out]
        rw [word_out (by omega)]
        exact cell_of_block zl 0 _ rfl
      have hs : ∀ w6, Below w2.drew.heap.size w2.drew w6 → w6.cell? ⟨w.heap.size + 1, 0, none⟩ = some (.string wd) ∧ w6.cell? ⟨w.heap.size, 1, none⟩ = some (.int .i64 a) ∧ w6.cell? ⟨w.heap.size, 2, none⟩ = some (.int .i64 b) ∧ w6.cell? ⟨w.heap.size, 3, none⟩ = some (.int .i64 c) := fun w6 h =>
        ⟨cell_below (w := w2.drew) cw h, cell_below (w := w2.drew) (cell_of_block z0 1 _ rfl) h, cell_below (w := w2.drew) (cell_of_block z0 2 _ rfl) h, cell_below (w := w2.drew) (cell_of_block z0 3 _ rfl) h⟩
      have HS := Lib.hid hs
      have Z0 := Lib.hid z0
      have HB2 := Lib.hid hb2
      clear hs z0 zl hb2 cw
      refine' Par.wp_region_pars (fun w w' => Below w.heap.size w w') 19 (by kernel_rfl) (by kernel_rfl) (by kernel_rfl) (by kernel_rfl) (by kernel_rfl) (by kernel_rfl)
        (fun w => Below.refl _ w) (fun h k => below_call h k) (fun vals => ?_)
      rotate_left
      simp only [List.take_succ_cons, List.take_zero, List.drop_succ_cons, List.drop_zero]
      (apply Par.par_x rfl; (focus (intro w6 hR hD K hK; replace hK := Lib.hid hK; obtain ⟨e1, e2, e3, e4⟩ := HS.out w6 hR; clear hR hD; go_simp; exact hK.out _ (Below.refl _ _))); simp only [Act.put, List.setIfInBounds_toArray, List.set_cons_zero, List.set_cons_succ, Nat.reduceAdd, List.cons_append, List.nil_append])
      (apply Par.par_x rfl; (focus (intro w6 hR hD K hK; replace hK := Lib.hid hK; obtain ⟨e1, e2, e3, e4⟩ := HS.out w6 hR; clear hR hD; go_simp; exact hK.out _ (Below.refl _ _))); simp only [Act.put, List.setIfInBounds_toArray, List.set_cons_zero, List.set_cons_succ, Nat.reduceAdd, List.cons_append, List.nil_append])
      (apply Par.par_x rfl; (focus (intro w6 hR hD K hK; replace hK := Lib.hid hK; obtain ⟨e1, e2, e3, e4⟩ := HS.out w6 hR; clear hR hD; go_simp; exact hK.out _ (Below.refl _ _))); simp only [Act.put, List.setIfInBounds_toArray, List.set_cons_zero, List.set_cons_succ, Nat.reduceAdd, List.cons_append, List.nil_append])
      (apply Par.par_x rfl; (focus (intro w6 hR hD K hK; replace hK := Lib.hid hK; obtain ⟨e1, e2, e3, e4⟩ := HS.out w6 hR; clear hR hD; go_simp; exact hK.out _ (Below.refl _ _))); simp only [Act.put, List.setIfInBounds_toArray, List.set_cons_zero, List.set_cons_succ, Nat.reduceAdd, List.cons_append, List.nil_append])
      (apply Par.par_x rfl; (focus (intro w6 hR hD K hK; replace hK := Lib.hid hK; obtain ⟨e1, e2, e3, e4⟩ := HS.out w6 hR; clear hR hD; go_simp; exact hK.out _ (Below.refl _ _))); simp only [Act.put, List.setIfInBounds_toArray, List.set_cons_zero, List.set_cons_succ, Nat.reduceAdd, List.cons_append, List.nil_append])
      (apply Par.par_x rfl; (focus (intro w6 hR hD K hK; replace hK := Lib.hid hK; obtain ⟨e1, e2, e3, e4⟩ := HS.out w6 hR; clear hR hD; go_simp; exact hK.out _ (Below.refl _ _))); simp only [Act.put, List.setIfInBounds_toArray, List.set_cons_zero, List.set_cons_succ, Nat.reduceAdd, List.cons_append, List.nil_append])
      (apply Par.par_x rfl; (focus (intro w6 hR hD K hK; replace hK := Lib.hid hK; obtain ⟨e1, e2, e3, e4⟩ := HS.out w6 hR; clear hR hD; go_simp; exact hK.out _ (Below.refl _ _))); simp only [Act.put, List.setIfInBounds_toArray, List.set_cons_zero, List.set_cons_succ, Nat.reduceAdd, List.cons_append, List.nil_append])
      (apply Par.par_x rfl; (focus (intro w6 hR hD K hK; replace hK := Lib.hid hK; clear hR hD; go_simp; refine (digits_any a HA.out.1 HA.out.2 _).mono ?_; rw [← HDA.out]; rintro r w7 ⟨rfl, hb⟩; exact hK.out _ hb)); simp only [Act.put, List.setIfInBounds_toArray, List.set_cons_zero, List.set_cons_succ, Nat.reduceAdd, List.cons_append, List.nil_append])
      (apply Par.par_x rfl; (focus (intro w6 hR hD K hK; replace hK := Lib.hid hK; obtain ⟨e1, e2, e3, e4⟩ := HS.out w6 hR; clear hR hD; go_simp; exact hK.out _ (Below.refl _ _))); simp only [Act.put, List.setIfInBounds_toArray, List.set_cons_zero, List.set_cons_succ, Nat.reduceAdd, List.cons_append, List.nil_append])
      (apply Par.par_x rfl; (focus (intro w6 hR hD K hK; replace hK := Lib.hid hK; obtain ⟨e1, e2, e3, e4⟩ := HS.out w6 hR; clear hR hD; go_simp; exact hK.out _ (Below.refl _ _))); simp only [Act.put, List.setIfInBounds_toArray, List.set_cons_zero, List.set_cons_succ, Nat.reduceAdd, List.cons_append, List.nil_append])
      (apply Par.par_x rfl; (focus (intro w6 hR hD K hK; replace hK := Lib.hid hK; obtain ⟨e1, e2, e3, e4⟩ := HS.out w6 hR; clear hR hD; go_simp; exact hK.out _ (Below.refl _ _))); simp only [Act.put, List.setIfInBounds_toArray, List.set_cons_zero, List.set_cons_succ, Nat.reduceAdd, List.cons_append, List.nil_append])
      (apply Par.par_x rfl; (focus (intro w6 hR hD K hK; replace hK := Lib.hid hK; obtain ⟨e1, e2, e3, e4⟩ := HS.out w6 hR; clear hR hD; go_simp; exact hK.out _ (Below.refl _ _))); simp only [Act.put, List.setIfInBounds_toArray, List.set_cons_zero, List.set_cons_succ, Nat.reduceAdd, List.cons_append, List.nil_append])
      (apply Par.par_x rfl; (focus (intro w6 hR hD K hK; replace hK := Lib.hid hK; clear hR hD; go_simp; refine (digits_any b HB.out.1 HB.out.2 _).mono ?_; rw [← HDB.out]; rintro r w7 ⟨rfl, hb⟩; exact hK.out _ hb)); simp only [Act.put, List.setIfInBounds_toArray, List.set_cons_zero, List.set_cons_succ, Nat.reduceAdd, List.cons_append, List.nil_append])
      (apply Par.par_x rfl; (focus (intro w6 hR hD K hK; replace hK := Lib.hid hK; obtain ⟨e1, e2, e3, e4⟩ := HS.out w6 hR; clear hR hD; go_simp; exact hK.out _ (Below.refl _ _))); simp only [Act.put, List.setIfInBounds_toArray, List.set_cons_zero, List.set_cons_succ, Nat.reduceAdd, List.cons_append, List.nil_append])
      (apply Par.par_x rfl; (focus (intro w6 hR hD K hK; replace hK := Lib.hid hK; obtain ⟨e1, e2, e3, e4⟩ := HS.out w6 hR; clear hR hD; go_simp; exact hK.out _ (Below.refl _ _))); simp only [Act.put, List.setIfInBounds_toArray, List.set_cons_zero, List.set_cons_succ, Nat.reduceAdd, List.cons_append, List.nil_append])
      (apply Par.par_x rfl; (focus (intro w6 hR hD K hK; replace hK := Lib.hid hK; obtain ⟨e1, e2, e3, e4⟩ := HS.out w6 hR; clear hR hD; go_simp; exact hK.out _ (Below.refl _ _))); simp only [Act.put, List.setIfInBounds_toArray, List.set_cons_zero, List.set_cons_succ, Nat.reduceAdd, List.cons_append, List.nil_append])
      (apply Par.par_x rfl; (focus (intro w6 hR hD K hK; replace hK := Lib.hid hK; obtain ⟨e1, e2, e3, e4⟩ := HS.out w6 hR; clear hR hD; go_simp; exact hK.out _ (Below.refl _ _))); simp only [Act.put, List.setIfInBounds_toArray, List.set_cons_zero, List.set_cons_succ, Nat.reduceAdd, List.cons_append, List.nil_append])
      (apply Par.par_x rfl; (focus (intro w6 hR hD K hK; replace hK := Lib.hid hK; clear hR hD; go_simp; refine (digits_any c HC.out.1 HC.out.2 _).mono ?_; rw [← HDC.out]; rintro r w7 ⟨rfl, hb⟩; exact hK.out _ hb)); simp only [Act.put, List.setIfInBounds_toArray, List.set_cons_zero, List.set_cons_succ, Nat.reduceAdd, List.cons_append, List.nil_append])
      (apply Par.par_x rfl; (focus (intro w6 hR hD K hK; replace hK := Lib.hid hK; obtain ⟨e1, e2, e3, e4⟩ := HS.out w6 hR; clear hR hD; go_simp; exact hK.out _ (Below.refl _ _))); simp only [Act.put, List.setIfInBounds_toArray, List.set_cons_zero, List.set_cons_succ, Nat.reduceAdd, List.cons_append, List.nil_append])
      refine Par.par_end fun w6 hR hp => ?_
      clear hp
      have c6 : w6.cell? ⟨w.heap.size, 6, none⟩ = some (.bool y) := cell_of_block (block_below (w := w2.drew) Z0.out hR) 6 _ rfl
      have HB6 := Lib.hid (below_call HB2.out.drew hR)
      clear hR
      cases y
      · go_wp2
        go_ret
        refine ⟨ret_str ?_, HB6.out⟩
        rw [← HALL.out]
        simp
      · go_wp2
        go_ret
        exact ⟨ret_str HALL.out, HB6.out⟩
    · obtain ⟨j, hj, rfl⟩ : ∃ j : Nat, j < 11 ∧ k = (j : Int) := ⟨k.toNat, by omega, by omega⟩
      go_enter Tryd.func14, Tryd.ntmps14
      go_wp2
      generalize hw2 : World.alloc (World.alloc w _) _ = w2
      have hb2 : Below w.heap.size w w2 := by rw [← hw2]; exact below_alloc' (below_alloc' (Below.refl _ _) _) _
      have z0 : w2.heap[w.heap.size]? = some (.cells #[.int .i64 (j : Int), .int .i64 a, .int .i64 b, .int .i64 c, u, x, .bool y] 26 (0, 0)) := by rw [← hw2, Below.heap_alloc _ _ _ (by simp)]; exact alloc_at _ _
      have zl : w2.heap[w.heap.size + 1]? = some (.cells #[.string ⟨#[63]⟩, .string ⟨#[104, 111, 108, 100]⟩, .string ⟨#[104, 101, 108, 100]⟩, .string ⟨#[112, 114, 101, 112, 97, 114, 101]⟩, .string ⟨#[118, 111, 116, 101]⟩, .string ⟨#[100, 101, 99, 105, 100, 101]⟩, .string ⟨#[97, 99, 107]⟩, .string ⟨#[97, 115, 107]⟩, .string ⟨#[116, 101, 108, 108]⟩, .string ⟨#[102, 114, 101, 101]⟩, .string ⟨#[102, 114, 101, 101, 100]⟩] 9 (0, 0)) := by rw [← hw2]; exact alloc_second _ _ _
      clear hw2
      have cw : w2.cell? ⟨w.heap.size + 1, j, none⟩ = some (.string wd) := by
        rw [HW.out]
        exact cell_of_block zl j _ (rwords hj)
      have hs : ∀ w6, Below w2.drew.heap.size w2.drew w6 → w6.cell? ⟨w.heap.size + 1, j, none⟩ = some (.string wd) ∧ w6.cell? ⟨w.heap.size, 1, none⟩ = some (.int .i64 a) ∧ w6.cell? ⟨w.heap.size, 2, none⟩ = some (.int .i64 b) ∧ w6.cell? ⟨w.heap.size, 3, none⟩ = some (.int .i64 c) := fun w6 h =>
        ⟨cell_below (w := w2.drew) cw h, cell_below (w := w2.drew) (cell_of_block z0 1 _ rfl) h, cell_below (w := w2.drew) (cell_of_block z0 2 _ rfl) h, cell_below (w := w2.drew) (cell_of_block z0 3 _ rfl) h⟩
      have HS := Lib.hid hs
      have Z0 := Lib.hid z0
      have HB2 := Lib.hid hb2
      clear hs z0 zl hb2 cw
      refine' Par.wp_region_pars (fun w w' => Below w.heap.size w w') 19 (by kernel_rfl) (by kernel_rfl) (by kernel_rfl) (by kernel_rfl) (by kernel_rfl) (by kernel_rfl)
        (fun w => Below.refl _ w) (fun h k => below_call h k) (fun vals => ?_)
      rotate_left
      simp only [List.take_succ_cons, List.take_zero, List.drop_succ_cons, List.drop_zero]
      (apply Par.par_x rfl; (focus (intro w6 hR hD K hK; replace hK := Lib.hid hK; obtain ⟨e1, e2, e3, e4⟩ := HS.out w6 hR; clear hR hD; go_simp; exact hK.out _ (Below.refl _ _))); simp only [Act.put, List.setIfInBounds_toArray, List.set_cons_zero, List.set_cons_succ, Nat.reduceAdd, List.cons_append, List.nil_append])
      (apply Par.par_x rfl; (focus (intro w6 hR hD K hK; replace hK := Lib.hid hK; obtain ⟨e1, e2, e3, e4⟩ := HS.out w6 hR; clear hR hD; go_simp; exact hK.out _ (Below.refl _ _))); simp only [Act.put, List.setIfInBounds_toArray, List.set_cons_zero, List.set_cons_succ, Nat.reduceAdd, List.cons_append, List.nil_append])
      (apply Par.par_x rfl; (focus (intro w6 hR hD K hK; replace hK := Lib.hid hK; obtain ⟨e1, e2, e3, e4⟩ := HS.out w6 hR; clear hR hD; go_simp; exact hK.out _ (Below.refl _ _))); simp only [Act.put, List.setIfInBounds_toArray, List.set_cons_zero, List.set_cons_succ, Nat.reduceAdd, List.cons_append, List.nil_append])
      (apply Par.par_x rfl; (focus (intro w6 hR hD K hK; replace hK := Lib.hid hK; obtain ⟨e1, e2, e3, e4⟩ := HS.out w6 hR; clear hR hD; go_simp; exact hK.out _ (Below.refl _ _))); simp only [Act.put, List.setIfInBounds_toArray, List.set_cons_zero, List.set_cons_succ, Nat.reduceAdd, List.cons_append, List.nil_append])
      (apply Par.par_x rfl; (focus (intro w6 hR hD K hK; replace hK := Lib.hid hK; obtain ⟨e1, e2, e3, e4⟩ := HS.out w6 hR; clear hR hD; go_simp; exact hK.out _ (Below.refl _ _))); simp only [Act.put, List.setIfInBounds_toArray, List.set_cons_zero, List.set_cons_succ, Nat.reduceAdd, List.cons_append, List.nil_append])
      (apply Par.par_x rfl; (focus (intro w6 hR hD K hK; replace hK := Lib.hid hK; obtain ⟨e1, e2, e3, e4⟩ := HS.out w6 hR; clear hR hD; go_simp; exact hK.out _ (Below.refl _ _))); simp only [Act.put, List.setIfInBounds_toArray, List.set_cons_zero, List.set_cons_succ, Nat.reduceAdd, List.cons_append, List.nil_append])
      (apply Par.par_x rfl; (focus (intro w6 hR hD K hK; replace hK := Lib.hid hK; obtain ⟨e1, e2, e3, e4⟩ := HS.out w6 hR; clear hR hD; go_simp; exact hK.out _ (Below.refl _ _))); simp only [Act.put, List.setIfInBounds_toArray, List.set_cons_zero, List.set_cons_succ, Nat.reduceAdd, List.cons_append, List.nil_append])
      (apply Par.par_x rfl; (focus (intro w6 hR hD K hK; replace hK := Lib.hid hK; clear hR hD; go_simp; refine (digits_any a HA.out.1 HA.out.2 _).mono ?_; rw [← HDA.out]; rintro r w7 ⟨rfl, hb⟩; exact hK.out _ hb)); simp only [Act.put, List.setIfInBounds_toArray, List.set_cons_zero, List.set_cons_succ, Nat.reduceAdd, List.cons_append, List.nil_append])
      (apply Par.par_x rfl; (focus (intro w6 hR hD K hK; replace hK := Lib.hid hK; obtain ⟨e1, e2, e3, e4⟩ := HS.out w6 hR; clear hR hD; go_simp; exact hK.out _ (Below.refl _ _))); simp only [Act.put, List.setIfInBounds_toArray, List.set_cons_zero, List.set_cons_succ, Nat.reduceAdd, List.cons_append, List.nil_append])
      (apply Par.par_x rfl; (focus (intro w6 hR hD K hK; replace hK := Lib.hid hK; obtain ⟨e1, e2, e3, e4⟩ := HS.out w6 hR; clear hR hD; go_simp; exact hK.out _ (Below.refl _ _))); simp only [Act.put, List.setIfInBounds_toArray, List.set_cons_zero, List.set_cons_succ, Nat.reduceAdd, List.cons_append, List.nil_append])
      (apply Par.par_x rfl; (focus (intro w6 hR hD K hK; replace hK := Lib.hid hK; obtain ⟨e1, e2, e3, e4⟩ := HS.out w6 hR; clear hR hD; go_simp; exact hK.out _ (Below.refl _ _))); simp only [Act.put, List.setIfInBounds_toArray, List.set_cons_zero, List.set_cons_succ, Nat.reduceAdd, List.cons_append, List.nil_append])
      (apply Par.par_x rfl; (focus (intro w6 hR hD K hK; replace hK := Lib.hid hK; obtain ⟨e1, e2, e3, e4⟩ := HS.out w6 hR; clear hR hD; go_simp; exact hK.out _ (Below.refl _ _))); simp only [Act.put, List.setIfInBounds_toArray, List.set_cons_zero, List.set_cons_succ, Nat.reduceAdd, List.cons_append, List.nil_append])
      (apply Par.par_x rfl; (focus (intro w6 hR hD K hK; replace hK := Lib.hid hK; clear hR hD; go_simp; refine (digits_any b HB.out.1 HB.out.2 _).mono ?_; rw [← HDB.out]; rintro r w7 ⟨rfl, hb⟩; exact hK.out _ hb)); simp only [Act.put, List.setIfInBounds_toArray, List.set_cons_zero, List.set_cons_succ, Nat.reduceAdd, List.cons_append, List.nil_append])
      (apply Par.par_x rfl; (focus (intro w6 hR hD K hK; replace hK := Lib.hid hK; obtain ⟨e1, e2, e3, e4⟩ := HS.out w6 hR; clear hR hD; go_simp; exact hK.out _ (Below.refl _ _))); simp only [Act.put, List.setIfInBounds_toArray, List.set_cons_zero, List.set_cons_succ, Nat.reduceAdd, List.cons_append, List.nil_append])
      (apply Par.par_x rfl; (focus (intro w6 hR hD K hK; replace hK := Lib.hid hK; obtain ⟨e1, e2, e3, e4⟩ := HS.out w6 hR; clear hR hD; go_simp; exact hK.out _ (Below.refl _ _))); simp only [Act.put, List.setIfInBounds_toArray, List.set_cons_zero, List.set_cons_succ, Nat.reduceAdd, List.cons_append, List.nil_append])
      (apply Par.par_x rfl; (focus (intro w6 hR hD K hK; replace hK := Lib.hid hK; obtain ⟨e1, e2, e3, e4⟩ := HS.out w6 hR; clear hR hD; go_simp; exact hK.out _ (Below.refl _ _))); simp only [Act.put, List.setIfInBounds_toArray, List.set_cons_zero, List.set_cons_succ, Nat.reduceAdd, List.cons_append, List.nil_append])
      (apply Par.par_x rfl; (focus (intro w6 hR hD K hK; replace hK := Lib.hid hK; obtain ⟨e1, e2, e3, e4⟩ := HS.out w6 hR; clear hR hD; go_simp; exact hK.out _ (Below.refl _ _))); simp only [Act.put, List.setIfInBounds_toArray, List.set_cons_zero, List.set_cons_succ, Nat.reduceAdd, List.cons_append, List.nil_append])
      (apply Par.par_x rfl; (focus (intro w6 hR hD K hK; replace hK := Lib.hid hK; clear hR hD; go_simp; refine (digits_any c HC.out.1 HC.out.2 _).mono ?_; rw [← HDC.out]; rintro r w7 ⟨rfl, hb⟩; exact hK.out _ hb)); simp only [Act.put, List.setIfInBounds_toArray, List.set_cons_zero, List.set_cons_succ, Nat.reduceAdd, List.cons_append, List.nil_append])
      (apply Par.par_x rfl; (focus (intro w6 hR hD K hK; replace hK := Lib.hid hK; obtain ⟨e1, e2, e3, e4⟩ := HS.out w6 hR; clear hR hD; go_simp; exact hK.out _ (Below.refl _ _))); simp only [Act.put, List.setIfInBounds_toArray, List.set_cons_zero, List.set_cons_succ, Nat.reduceAdd, List.cons_append, List.nil_append])
      refine Par.par_end fun w6 hR hp => ?_
      clear hp
      have c6 : w6.cell? ⟨w.heap.size, 6, none⟩ = some (.bool y) := cell_of_block (block_below (w := w2.drew) Z0.out hR) 6 _ rfl
      have HB6 := Lib.hid (below_call HB2.out.drew hR)
      clear hR
      cases y
      · go_wp2
        go_ret
        refine ⟨ret_str ?_, HB6.out⟩
        rw [← HALL.out]
        simp
      · go_wp2
        go_ret
        exact ⟨ret_str HALL.out, HB6.out⟩
end Go.Proofs.YtpkkjonajimefaaDoor
