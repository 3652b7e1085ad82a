/- An event with one number. -/
import Derived.Test.YtikamehjeaoilaaGreatDoorTd
import Derived.Test.YtikamehjeaoilaaGreatDoorPs
set_option linter.unusedVariables false
set_option linter.unusedSimpArgs false
namespace Go.Proofs.YtikamehjeaoilaaGreatDoor
open Go.RowKit

def zeros10 : List Value := [.int .i64 0, .int .i64 0, .int .i64 0, .slice none 0 0, .string ⟨#[]⟩, .int .i64 0, .int .i64 0, .slice none 0 0, .slice none 0 0, .bool false]
/-- What is read of words that have a kind with one number. -/
def oneOk (ws : List (List UInt8)) : Bool := kindOf (ws.getD 0 []) != 0 && numP 999999 (ws.getD 1 []) && decide (ws.length ≤ 2)
def oneV (ws : List (List UInt8)) : Value := if oneOk ws then .agg (Value.int .i64 (kindOf (ws.getD 0 [])) :: zeros10.set 0 (.int .i64 (numV (ws.getD 1 [])))).toArray else .agg (Value.int .i64 0 :: zeros10).toArray

def oneC (ws : List (List UInt8)) : Int := if oneOk ws then 0 else 8
theorem laid11 (x0 x1 x2 x3 x4 x5 x6 x7 x8 x9 x10 y0 y1 y2 y3 y4 y5 y6 y7 y8 y9 y10 : Value) : laid #[x0, x1, x2, x3, x4, x5, x6, x7, x8, x9, x10] 0 [y0, y1, y2, y3, y4, y5, y6, y7, y8, y9, y10] = #[y0, y1, y2, y3, y4, y5, y6, y7, y8, y9, y10] := by simp [laid]
theorem sets11 {w : World} {b : Nat} {T : TypeId} {x0 x1 x2 x3 x4 x5 x6 x7 x8 x9 x10 : Value} (y0 y1 y2 y3 y4 y5 y6 y7 y8 y9 y10 : Value) (h : w.heap[b]? = some (.cells #[x0, x1, x2, x3, x4, x5, x6, x7, x8, x9, x10] T (0, 0))) :
    (w.setCells b 0 [y0, y1, y2, y3, y4, y5, y6, y7, y8, y9, y10]).heap[b]? = some (.cells #[y0, y1, y2, y3, y4, y5, y6, y7, y8, y9, y10] T (0, 0)) := by
  rw [← laid11 x0 x1 x2 x3 x4 x5 x6 x7 x8 x9 x10 y0 y1 y2 y3 y4 y5 y6 y7 y8 y9 y10]
  exact heap_setCells b T [y0, y1, y2, y3, y4, y5, y6, y7, y8, y9, y10] 0 w #[x0, x1, x2, x3, x4, x5, x6, x7, x8, x9, x10] h
theorem bp_at {P : Program} {fn : Func} {R : Ending → World → Prop} {x : Exit} {a : Act} {w W : World} (h : w = W) (k : bodyPost P fn R x a W) : bodyPost P fn R x a w := by rw [h]; exact k
theorem a_dec : Utf8.decode ⟨#[97]⟩ 0 = (97, 1) := by decide +kernel
set_option maxHeartbeats 4000000 in
set_option maxRecDepth 100000 in
theorem event_one (s : List UInt8) (hs : s.length ≤ 4294967200) (hk : ∀ k, kindOf ((splitC 32 s).getD 0 []) = k → k ≠ 1 ∧ k ≠ 4 ∧ k ≠ 5 ∧ k ≠ 10) (w : World) (ht : Tabs w) :
    Calls Tryz.prog 8 #[.string (str s)] w fun e w' => e = .returned (.tuple #[oneV (splitC 32 s), .int .i64 (oneC (splitC 32 s))]) ∧ Below w.heap.size w w' := by
  have HT := Lib.hid ht
  clear ht
  obtain ⟨z, hz⟩ : ∃ z, str s = z := ⟨_, rfl⟩
  have HZ := Lib.hid hz
  rw [hz]
  clear hz
  go_enter Tryz.func8, Tryz.ntmps8
  go_wp2_with fail
  rw [← HZ.out]
  have hb0 : Below w.heap.size w (w.alloc (.cells (Value.int .i64 0 :: zeros10).toArray 33)) := below_alloc' (Below.refl _ _) _
  have hr0 : (w.alloc (.cells (Value.int .i64 0 :: zeros10).toArray 33)).heap[w.heap.size]? = some (.cells (Value.int .i64 0 :: zeros10).toArray 33 (0, 0)) := alloc_at _ _
  generalize hw0 : World.alloc w _ = w0
  rw [show w.alloc (.cells (Value.int .i64 0 :: zeros10).toArray 33) = w0 from hw0] at hb0 hr0
  clear hw0
  refine (split_any s 32 w0 (HT.out.below hb0) (by omega)).mono ?_
  rintro e w1 ⟨rfl, hbk, hb1⟩
  have hfw := splitC_few (c := 32) hs
  have hne := splitC_ne 32 s
  obtain ⟨ws, hws⟩ : ∃ ws, splitC 32 s = ws := ⟨_, rfl⟩
  rw [hws] at hbk hfw hne hk
  rw [hws]
  have HWS := Lib.hid hws
  have hr1 := block_below hr0 hb1
  have hB1 := below_call hb0 hb1
  have hT1 : Tabs w1 := (HT.out.below hb0).below hb1
  have HS := Lib.hid hB1
  clear hws hr0 hb0 hb1
  obtain ⟨n0, hn0⟩ : ∃ n, ws.length = n := ⟨_, rfl⟩
  have hn1 : 1 ≤ n0 := by
    rcases Nat.eq_zero_or_pos n0 with h | h
    · rw [h] at hn0; exact absurd (List.length_eq_zero_iff.1 hn0) hne
    · exact h
  rw [hn0]
  go_wp2_with fail
  have hb2 : Below w1.heap.size w1 (w1.alloc (.cells #[.slice (some ⟨w0.heap.size, 0, none⟩) n0 n0, .bool false] 59)) := below_alloc' (Below.refl _ _) _
  have ht2 : Tak (w1.alloc (.cells #[.slice (some ⟨w0.heap.size, 0, none⟩) n0 n0, .bool false] 59)) w1.heap.size w0.heap.size ws 0 false :=
    ⟨⟨n0, ⟨w0.heap.size, 0, none⟩, by rw [Nat.sub_zero, hn0]; exact alloc_at _ _, by omega, fun _ => rfl⟩, hbk.below hb2, Nat.zero_le _⟩
  have hr2 := block_below hr1 hb2
  have hB2 := below_call hB1 hb2
  have hT2 := hT1.below hb2
  have hg2 : w.heap.size ≤ w1.heap.size := hB1.size
  generalize World.alloc w1 _ = w2 at hb2 ht2 hr2 hB2 hT2 ⊢
  clear hb2 hr1 hB1 hT1 hbk HS
  refine (take_some w2 w1.heap.size w0.heap.size 0 ws false ht2 (by omega) (by have := hfw.1; omega)).mono ?_
  rintro e w3 ⟨rfl, ht3, hg3⟩
  have hrne : w.heap.size ≠ w1.heap.size := fun e => by
    obtain ⟨⟨c0, a0, h1, _⟩, _⟩ := ht2
    rw [← e, hr2] at h1
    injection h1 with h1
    injection h1 with _ h1
    exact absurd h1 (by decide)
  have hr3 := Gb.block' hg3 hr2 hrne
  have hB3 := Gb.below hB2 hg3 hg2 hB2.size
  clear hg3 hr2 hB2 ht2 hT2
  go_wp2_with fail
  refine (pkind_any ws[0] w3 (HT.out.below hB3)).mono ?_
  rintro e w4 ⟨rfl, hb4⟩
  have hw0 : ws.getD 0 [] = ws[0] := by rw [List.getD_eq_getElem?_getD, List.getElem?_eq_getElem (by omega)]; rfl
  have hr4 := block_below hr3 hb4
  have hB4 := below_call hB3 hb4
  have ht4 := ht3.below hb4
  have hk4 := hk _ rfl
  rw [hw0] at hk4
  obtain ⟨k, hkk⟩ : ∃ k, kindOf ws[0] = k := ⟨_, rfl⟩
  rw [hkk] at hk4
  rw [hkk]
  have HW := Lib.hid (hw0 : ws.getD 0 [] = ws[0])
  have HKK := Lib.hid hkk
  clear hw0 hkk hr3 hB3 ht3 hb4 hk
  go_wp2_with fail
  have hsh : shapeOf k = ⟨#[97]⟩ := by simp [shapeOf, hk4.1, hk4.2.1, hk4.2.2.1, hk4.2.2.2]
  have hb5 : Below w4.heap.size w4 (w4.alloc (.cells #[.int .i64 k, .int .i64 0, .int .i64 0, .int .i64 0, .slice none 0 0, .string ⟨#[]⟩, .int .i64 0, .int .i64 0, .slice none 0 0, .slice none 0 0, .bool false] 33)) := below_alloc' (Below.refl _ _) _
  have hE5 : (w4.alloc (.cells #[.int .i64 k, .int .i64 0, .int .i64 0, .int .i64 0, .slice none 0 0, .string ⟨#[]⟩, .int .i64 0, .int .i64 0, .slice none 0 0, .slice none 0 0, .bool false] 33)).heap[w4.heap.size]? = some (.cells (Value.int .i64 k :: zeros10).toArray 33 (0, 0)) := alloc_at _ _
  have hr5 := block_below hr4 hb5
  have hB5 := below_call hB4 hb5
  have ht5 := ht4.below hb5
  have hg4 : w.heap.size ≤ w4.heap.size := hB4.size
  have hg54 : w4.heap.size < (w4.alloc (.cells #[.int .i64 k, .int .i64 0, .int .i64 0, .int .i64 0, .slice none 0 0, .string ⟨#[]⟩, .int .i64 0, .int .i64 0, .slice none 0 0, .slice none 0 0, .bool false] 33)).heap.size := by rw [World.size_alloc]; exact Nat.lt_succ_self _
  generalize World.alloc w4 _ = w5 at hb5 hE5 hr5 hB5 ht5 hg54 ⊢
  have hrlt4 : w.heap.size < w4.heap.size := (Array.getElem?_eq_some_iff.1 hr4).1
  clear hb5 hr4 hB4 ht4
  refine (shape_any k w5).mono ?_
  rintro e w5' ⟨rfl, rfl⟩
  rw [hsh]
  go_wp2_with fail
  refine wp_loop_rounds 2 ?_
  rw [rounds_succ]
  have hnx : ∀ ty, (Instr.next (.pointer (some ⟨w5'.heap.size, 0, none⟩)) true ty).run Tryz.prog (w5'.iter ⟨#[97]⟩ 0) = .ok (.tuple #[.bool true, .int .i64 (0 : Nat), .int .i32 (97 : Nat)]) (w5'.iter ⟨#[97]⟩ 1) := fun ty => by
    rw [run_next_any w5' ⟨#[97]⟩ 0 ty (by decide), a_dec]; rfl
  go_wp2_with fail
  have hb6 : Below w5'.heap.size w5' (w5'.iter ⟨#[97]⟩ 1) := below_alloc' (Below.refl _ _) _
  have hi6 : (w5'.iter ⟨#[97]⟩ 1).heap[w5'.heap.size]? = some (.stringIter ⟨#[97]⟩ 1) := World.iter_heap _ _ _
  have htlt : w1.heap.size < w5'.heap.size := by
    obtain ⟨⟨c0, a0, h1, _⟩, _⟩ := ht5
    exact (Array.getElem?_eq_some_iff.1 h1).1
  generalize w5'.iter ⟨#[97]⟩ 1 = w6 at hb6 hi6 ⊢
  refine (part_num w6 w1.heap.size w4.heap.size w0.heap.size 1 1 97 (.inl ⟨rfl, rfl⟩) ws false (ht5.below hb6) hfw k (by have := hk4.1; omega) zeros10 (block_below hE5 hb6) rfl).mono ?_
  rintro e w7 ⟨rfl, ht7, hE7, wm, g1, g2⟩
  have hi7 := Gb.block' g2 (Gb.block' g1 hi6 (by omega)) (by omega)
  have hr7 := Gb.block' g2 (Gb.block' g1 (block_below hr5 hb6) hrne) (by omega)
  have hB6 := below_call hB5 hb6
  have hB7 := Gb.below (Gb.below hB6 g1 hg2 hB6.size) g2 hg4 (Gb.below hB6 g1 hg2 hB6.size).size
  have hnx2 : ∀ ty, (Instr.next (.pointer (some ⟨w5'.heap.size, 0, none⟩)) true ty).run Tryz.prog w7 = _ := fun ty => Lib.run_next_end_at w7 w5'.heap.size ⟨#[97]⟩ 1 ty hi7 (by decide)
  have e0 := cell_of_block hE7 0 _ rfl
  obtain ⟨hn, fn⟩ := ht7.no
  obtain ⟨⟨c7, a7, h7, hc7, _⟩, _⟩ := ht7
  have hl := cell_of_block h7 0 _ rfl
  have HR7 := Lib.hid hr7
  have HE7 := Lib.hid hE7
  have HB7 := Lib.hid hB7
  clear hnx hi6 hb6 htlt g1 g2 hi7 hr7 hB6 hB7 hE7 h7 hr5 hB5 ht5 hE5 hg54 hsh
  rw [hn0] at hl hc7
  generalize hno : (false || !numP 999999 (ws.getD 1 [])) = nb at hn
  have HNO := Lib.hid hno
  clear hno
  obtain ⟨lf, hlf⟩ : ∃ lf, n0 - min (1 + 1) n0 = lf := ⟨_, rfl⟩
  rw [hlf] at hl hc7
  have HLF := Lib.hid hlf
  clear hlf
  go_wp2_with fail
  rw [rounds_succ]
  have hr7' : w7.heap[w.heap.size]? = some (.cells #[.int .i64 0, .int .i64 0, .int .i64 0, .int .i64 0, .slice none 0 0, .string ⟨#[]⟩, .int .i64 0, .int .i64 0, .slice none 0 0, .slice none 0 0, .bool false] 33 (0, 0)) := HR7.out
  obtain ⟨nv, hnv⟩ : ∃ nv, numV (ws.getD 1 []) = nv := ⟨_, rfl⟩
  have HNV := Lib.hid hnv
  have hE7' : w7.heap[w4.heap.size]? = some (.cells #[.int .i64 k, .int .i64 nv, .int .i64 0, .int .i64 0, .slice none 0 0, .string ⟨#[]⟩, .int .i64 0, .int .i64 0, .slice none 0 0, .slice none 0 0, .bool false] 33 (0, 0)) := by rw [← hnv]; exact HE7.out
  have hfr := fun j => free_of_block hr7' j
  have r0 := cell_of_block hr7' 0 _ rfl
  have r1 := cell_of_block hr7' 1 _ rfl
  have r2 := cell_of_block hr7' 2 _ rfl
  have r3 := cell_of_block hr7' 3 _ rfl
  have r4 := cell_of_block hr7' 4 _ rfl
  have r5 := cell_of_block hr7' 5 _ rfl
  have r6 := cell_of_block hr7' 6 _ rfl
  have r7 := cell_of_block hr7' 7 _ rfl
  have r8 := cell_of_block hr7' 8 _ rfl
  have r9 := cell_of_block hr7' 9 _ rfl
  have r10 := cell_of_block hr7' 10 _ rfl
  have d0 := cell_of_block hE7' 0 _ rfl
  have d1 := cell_of_block hE7' 1 _ rfl
  have d2 := cell_of_block hE7' 2 _ rfl
  have d3 := cell_of_block hE7' 3 _ rfl
  have d4 := cell_of_block hE7' 4 _ rfl
  have d5 := cell_of_block hE7' 5 _ rfl
  have d6 := cell_of_block hE7' 6 _ rfl
  have d7 := cell_of_block hE7' 7 _ rfl
  have d8 := cell_of_block hE7' 8 _ rfl
  have d9 := cell_of_block hE7' 9 _ rfl
  have d10 := cell_of_block hE7' 10 _ rfl
  have hok : oneOk ws = (k != 0 && !nb && decide (lf = 0)) := by
    unfold oneOk
    rw [HW.out, HKK.out, hn0, ← HLF.out, ← HNO.out]
    congr 1
    · simp
    · exact decide_eq_decide.2 (by omega)
  have HOK := Lib.hid hok
  clear hr7' hE7' hnv hok
  by_cases hgood : k ≠ 0 ∧ nb = false ∧ lf = 0
  · obtain ⟨hk0, rfl, rfl⟩ := hgood
    have bk : ((k : Int) == 0) = false := beq_eq_false_iff_ne.2 (by omega)
    have hkb : (k != 0) = true := by simp [hk0]
    have HKB := Lib.hid hkb
    clear hkb hk0 hk4
    go_wp2
    have fb := sets11 (.int .i64 k) (.int .i64 nv) (.int .i64 0) (.int .i64 0) (.slice none 0 0) (.string ⟨#[]⟩) (.int .i64 0) (.int .i64 0) (.slice none 0 0) (.slice none 0 0) (.bool false) HR7.out
    have gb := below_sets (b := w.heap.size) (Nat.le_refl _) [.int .i64 k, .int .i64 nv, .int .i64 0, .int .i64 0, .slice none 0 0, .string ⟨#[]⟩, .int .i64 0, .int .i64 0, .slice none 0 0, .slice none 0 0, .bool false] 0 w7 HB7.out
    obtain ⟨W2, hW2⟩ : ∃ W2, w7.setCells w.heap.size 0 [.int .i64 k, .int .i64 nv, .int .i64 0, .int .i64 0, .slice none 0 0, .string ⟨#[]⟩, .int .i64 0, .int .i64 0, .slice none 0 0, .slice none 0 0, .bool false] = W2 := ⟨_, rfl⟩
    rw [hW2] at fb gb
    refine bp_at hW2 ?_
    clear hW2
    have k0 := cell_of_block fb 0 _ rfl
    have k1 := cell_of_block fb 1 _ rfl
    have k2 := cell_of_block fb 2 _ rfl
    have k3 := cell_of_block fb 3 _ rfl
    have k4 := cell_of_block fb 4 _ rfl
    have k5 := cell_of_block fb 5 _ rfl
    have k6 := cell_of_block fb 6 _ rfl
    have k7 := cell_of_block fb 7 _ rfl
    have k8 := cell_of_block fb 8 _ rfl
    have k9 := cell_of_block fb 9 _ rfl
    have k10 := cell_of_block fb 10 _ rfl
    have hgo : oneOk ws = true := by rw [HOK.out, HKB.out]; rfl
    have HGO := Lib.hid hgo
    clear hgo
    refine bodyPost_ret (v := .tuple #[.agg #[.int .i64 k, .int .i64 nv, .int .i64 0, .int .i64 0, .slice none 0 0, .string ⟨#[]⟩, .int .i64 0, .int .i64 0, .slice none 0 0, .slice none 0 0, .bool false], .int .i64 0]) (by simp [results, Tryz.results8, go_sem, k0, k1, k2, k3, k4, k5, k6, k7, k8, k9, k10]) rfl ?_
    refine ⟨?_, gb⟩
    rw [HWS.out]
    unfold oneV oneC
    rw [HGO.out]
    rw [HW.out, HKK.out, HNV.out]
    rfl
  · have hbad : oneOk ws = false := by
      rw [HOK.out]
      by_cases h0 : k = 0
      · simp [h0]
      · cases nb
        · have : ¬ lf = 0 := fun e => hgood ⟨h0, rfl, e⟩
          simp [this]
        · simp
    have HBAD := Lib.hid hbad
    clear hbad
    have hcond : k = 0 ∨ (((k : Int) == 0) = false ∧ nb = true) ∨ (((k : Int) == 0) = false ∧ nb = false ∧ (0 : Int) < lf) := by
      by_cases h0 : k = 0
      · exact .inl h0
      · have : ((k : Int) == 0) = false := beq_eq_false_iff_ne.2 (by omega)
        cases nb
        · exact .inr (.inr ⟨this, rfl, by have : ¬ lf = 0 := fun e => hgood ⟨h0, rfl, e⟩; omega⟩)
        · exact .inr (.inl ⟨this, rfl⟩)
    clear hgood hk4
    rcases hcond with rfl | ⟨bk, rfl⟩ | ⟨bk, rfl, hlf⟩
    all_goals
      go_wp2
      have fb := sets11 (.int .i64 0) (.int .i64 0) (.int .i64 0) (.int .i64 0) (.slice none 0 0) (.string ⟨#[]⟩) (.int .i64 0) (.int .i64 0) (.slice none 0 0) (.slice none 0 0) (.bool false) HR7.out
      have gb := below_sets (b := w.heap.size) (Nat.le_refl _) [.int .i64 0, .int .i64 0, .int .i64 0, .int .i64 0, .slice none 0 0, .string ⟨#[]⟩, .int .i64 0, .int .i64 0, .slice none 0 0, .slice none 0 0, .bool false] 0 w7 HB7.out
      obtain ⟨W2, hW2⟩ : ∃ W2, w7.setCells w.heap.size 0 [.int .i64 0, .int .i64 0, .int .i64 0, .int .i64 0, .slice none 0 0, .string ⟨#[]⟩, .int .i64 0, .int .i64 0, .slice none 0 0, .slice none 0 0, .bool false] = W2 := ⟨_, rfl⟩
      rw [hW2] at fb gb
      refine bp_at hW2 ?_
      clear hW2
      have k0 := cell_of_block fb 0 _ rfl
      have k1 := cell_of_block fb 1 _ rfl
      have k2 := cell_of_block fb 2 _ rfl
      have k3 := cell_of_block fb 3 _ rfl
      have k4 := cell_of_block fb 4 _ rfl
      have k5 := cell_of_block fb 5 _ rfl
      have k6 := cell_of_block fb 6 _ rfl
      have k7 := cell_of_block fb 7 _ rfl
      have k8 := cell_of_block fb 8 _ rfl
      have k9 := cell_of_block fb 9 _ rfl
      have k10 := cell_of_block fb 10 _ rfl
      refine bodyPost_ret (v := .tuple #[.agg #[.int .i64 0, .int .i64 0, .int .i64 0, .int .i64 0, .slice none 0 0, .string ⟨#[]⟩, .int .i64 0, .int .i64 0, .slice none 0 0, .slice none 0 0, .bool false], .int .i64 8]) (by simp [results, Tryz.results8, go_sem, k0, k1, k2, k3, k4, k5, k6, k7, k8, k9, k10]) rfl ?_
      refine ⟨?_, gb⟩
      rw [HWS.out]
      unfold oneV oneC
      rw [HBAD.out]
      rfl
end Go.Proofs.YtikamehjeaoilaaGreatDoor
