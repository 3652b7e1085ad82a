/- Records of a gang alone as lines (printed by wip/play/ltext.py). -/
import Derived.Test.YtofofjfmhaggmaaGreatDoorJi
import Derived.Test.YtofofjfmhaggmaaGreatDoorRa
import Derived.Test.YtofofjfmhaggmaaGreatDoorJh
set_option linter.unusedVariables false
set_option linter.unusedSimpArgs false
namespace Go.Proofs.YtofofjfmhaggmaaGreatDoor
open Go.RowKit

theorem peered_no (k : Int) (h3 : k ≠ 3) (h7 : k ≠ 7) (w : World) : Calls Tryz.prog 140 #[.int .i64 k] w fun e w' => e = .returned (.bool false) ∧ w = w' := by
  have e3 : (k == 3) = false := beq_eq_false_iff_ne.2 h3
  have e7 : (k == 7) = false := beq_eq_false_iff_ne.2 h7
  go_enter Tryz.func140, Tryz.ntmps140
  go_wp2
  go_ret
  exact ⟨rfl, rfl⟩
set_option maxHeartbeats 4000000 in
set_option maxRecDepth 1000000 in
theorem ltext_g4 (g : Nat) (w : World) (ht : Tabs w) (hg : g ≤ 999999) :
    Calls Tryz.prog 110 #[.agg #[.int .i64 4, .int .i64 g, .slice none 0 0, .slice none 0 0, .string ⟨#[]⟩, .int .i64 0, .int .i64 0, .slice none 0 0, .slice none 0 0, .bool false]] w fun e w' => e = .returned (.string (str (Lib.join [[99, 111, 109, 109, 105, 116], Lib.decDigits g] [32]))) ∧ Below w.heap.size w w' := by
  have HT := Lib.hid ht
  obtain ⟨zd, hzd⟩ : ∃ z, str (Lib.decDigits g) = z := ⟨_, rfl⟩
  have HZD := Lib.hid hzd
  have hdl : (Lib.decDigits g).length ≤ 21 := by
    have := Lib.itoa_length_le g (by omega) (by omega)
    rwa [Lib.itoa_nonneg] at this
  clear ht hzd
  go_enter Tryz.func110, Tryz.ntmps110
  go_wp2_with fail
  have hz0 := block_below (alloc_at w (.cells #[.int .i64 4, .int .i64 g, .slice none 0 0, .slice none 0 0, .string ⟨#[]⟩, .int .i64 0, .int .i64 0, .slice none 0 0, .slice none 0 0, .bool false] 67)) (below_alloc' (Below.refl _ _) (.cells #[.string ⟨#[]⟩] 9))
  have hl0 := alloc_second w (.cells #[.int .i64 4, .int .i64 g, .slice none 0 0, .slice none 0 0, .string ⟨#[]⟩, .int .i64 0, .int .i64 0, .slice none 0 0, .slice none 0 0, .bool false] 67) (.cells #[.string ⟨#[]⟩] 9)
  have hb0 : Below w.heap.size w ((w.alloc (.cells #[.int .i64 4, .int .i64 g, .slice none 0 0, .slice none 0 0, .string ⟨#[]⟩, .int .i64 0, .int .i64 0, .slice none 0 0, .slice none 0 0, .bool false] 67)).alloc (.cells #[.string ⟨#[]⟩] 9)) := below_alloc' (below_alloc' (Below.refl _ _) _) _
  generalize World.alloc (World.alloc w _) _ = w1 at hz0 hl0 hb0 ⊢
  refine (fields_const _ lverbs lverbs_fields (by decide +kernel) (by decide) _ (HT.out.below hb0)).mono ?_
  rintro e w2 ⟨rfl, hf, hb2⟩
  rw [show lverbs.length = 7 from rfl]
  have cf : w2.cell? ⟨w1.heap.size, 3, none⟩ = some (.string ⟨#[99, 111, 109, 109, 105, 116]⟩) := hf.cell (j := 3) (by decide)
  have hz2 := block_below hz0 hb2
  have hl2 := block_below hl0 hb2
  have hb20 := below_call hb0 hb2
  have r0 := cell_of_block hz2 0 _ rfl
  have g0 := cell_of_block hl2 0 _ rfl
  have ff := free_of_block hl2 0
  have hz3 := (Below.heap_setCell w2 ⟨w.heap.size + 1, 0, none⟩ (.string ⟨#[99, 111, 109, 109, 105, 116]⟩) w.heap.size (by simp)).trans hz2
  have hl3 := heap_setCell_same w2 (w.heap.size + 1) 0 _ _ (.string ⟨#[99, 111, 109, 109, 105, 116]⟩) hl2
  have hb3 := hb20.setCell (p := ⟨w.heap.size + 1, 0, none⟩) (Nat.le_succ _) (.string ⟨#[99, 111, 109, 109, 105, 116]⟩)
  have q0 := fun o => cell_of_block (block_below hz3 (below_alloc' (Below.refl _ _) o)) 0 _ rfl
  have q1 := fun o => cell_of_block (block_below hz3 (below_alloc' (Below.refl _ _) o)) 1 _ rfl
  have q4 := cell_of_block hz3 4 _ rfl
  have q5 := cell_of_block hz3 5 _ rfl
  have q6 := cell_of_block hz3 6 _ rfl
  have q7 := cell_of_block hz3 7 _ rfl
  have q8 := cell_of_block hz3 8 _ rfl
  have q9 := cell_of_block hz3 9 _ rfl
  have hb5 : Below w.heap.size w ((w2.setCell ⟨w.heap.size + 1, 0, none⟩ (.string ⟨#[99, 111, 109, 109, 105, 116]⟩)).alloc (.cells #[.string ⟨#[]⟩, .int .i64 0, .int .i64 0, .slice none 0 0, .slice none 0 0, .bool false] 60)) := below_call hb3 (below_alloc' (Below.refl _ _) _)
  have hz5 := block_below hz3 (below_alloc' (Below.refl _ _) (.cells #[.string ⟨#[]⟩, .int .i64 0, .int .i64 0, .slice none 0 0, .slice none 0 0, .bool false] 60))
  have hl5 := block_below hl3 (below_alloc' (Below.refl _ _) (.cells #[.string ⟨#[]⟩, .int .i64 0, .int .i64 0, .slice none 0 0, .slice none 0 0, .bool false] 60))
  have HZ5 := Lib.hid hz5
  have HL5 := Lib.hid hl5
  have HB5 := Lib.hid hb5
  clear hz0 hl0 hb0 hf hz2 hl2 hb20 hz3 hl3 hb3 hb2 hz5 hl5 hb5
  go_wp2_with fail
  refine (itoa_nat _ (HT.out.below HB5.out) g (by omega)).mono ?_
  rw [HZD.out]
  rintro e w6 ⟨rfl, hb⟩
  have HB6 := Lib.hid (below_call HB5.out hb)
  have HZ6 := Lib.hid (block_below HZ5.out hb)
  have HO6 := Lib.hid (own_lit' (block_below HL5.out hb) (n := 1) (size := 1) rfl (by decide) (Nat.le_refl _))
  clear hb cf r0 g0 ff q0 q1 q4 q5 q6 q7 q8 q9
  go_wp2_with (at_builtin; (refine list_appends elt_strs _ _ rfl rfl rfl rfl (own_below HO6.out (below_alloc' (Below.refl _ _) _)) (show [Value.string zd].length = 1 * 1 from rfl) (World.news_of_block (alloc_at _ _)) (by simp [Value.oneCell']) (by omega) (by have := HB6.out.size; have := (Array.getElem?_eq_some_iff.1 HZ6.out).1; simp; omega) ?_); intro v' w7 hown hgrow; replace hgrow : World.grownBy _ _ (some (w.heap.size + 1)) := hgrow; have HO7 := Lib.hid hown; have z7 := grown_at hgrow (block_below HZ6.out (below_alloc' (Below.refl _ _) _)) (fun k hk e => by injection hk with hk; omega); have HB7 := Lib.hid ((below_alloc' HB6.out _).grown hgrow (Nat.le_trans HB6.out.size (by simp)) (fun k hk => by injection hk with hk; omega)); have HZ7 := Lib.hid z7; have y0 := cell_of_block z7 0 _ rfl; have y3 := cell_of_block z7 3 _ rfl; clear hown hgrow z7)
  refine (peered_no 4 (by decide) (by decide) w7).mono ?_
  rintro e w8 ⟨rfl, rfl⟩
  go_wp2_with fail
  refine wp_loop_rounds 1 ?_
  rw [rounds_succ]
  obtain ⟨g', cap, rfl, hg', hgs⟩ := (own_forms HO7.out).resolve_left (by rintro ⟨_, h, _⟩; exact absurd h (by omega))
  have hO := HO7.out
  rw [← HZD.out] at hO
  have HO8 := Lib.hid hO
  clear hO
  go_wp2_with fail
  refine (join_strs w7 g' cap (w.heap.size + 1) [[99, 111, 109, 109, 105, 116], Lib.decDigits g] HO8.out (by simp) ?_).mono ?_
  · rw [join_two]
    simp
    omega
  · rintro e w9 ⟨rfl, hb9⟩
    have HB9 := Lib.hid (below_call HB7.out hb9)
    clear hb9
    go_wp2
    go_ret
    exact ⟨rfl, HB9.out⟩
set_option maxHeartbeats 4000000 in
set_option maxRecDepth 1000000 in
theorem ltext_g5 (g : Nat) (w : World) (ht : Tabs w) (hg : g ≤ 999999) :
    Calls Tryz.prog 110 #[.agg #[.int .i64 5, .int .i64 g, .slice none 0 0, .slice none 0 0, .string ⟨#[]⟩, .int .i64 0, .int .i64 0, .slice none 0 0, .slice none 0 0, .bool false]] w fun e w' => e = .returned (.string (str (Lib.join [[97, 98, 111, 114, 116], Lib.decDigits g] [32]))) ∧ Below w.heap.size w w' := by
  have HT := Lib.hid ht
  obtain ⟨zd, hzd⟩ : ∃ z, str (Lib.decDigits g) = z := ⟨_, rfl⟩
  have HZD := Lib.hid hzd
  have hdl : (Lib.decDigits g).length ≤ 21 := by
    have := Lib.itoa_length_le g (by omega) (by omega)
    rwa [Lib.itoa_nonneg] at this
  clear ht hzd
  go_enter Tryz.func110, Tryz.ntmps110
  go_wp2_with fail
  have hz0 := block_below (alloc_at w (.cells #[.int .i64 5, .int .i64 g, .slice none 0 0, .slice none 0 0, .string ⟨#[]⟩, .int .i64 0, .int .i64 0, .slice none 0 0, .slice none 0 0, .bool false] 67)) (below_alloc' (Below.refl _ _) (.cells #[.string ⟨#[]⟩] 9))
  have hl0 := alloc_second w (.cells #[.int .i64 5, .int .i64 g, .slice none 0 0, .slice none 0 0, .string ⟨#[]⟩, .int .i64 0, .int .i64 0, .slice none 0 0, .slice none 0 0, .bool false] 67) (.cells #[.string ⟨#[]⟩] 9)
  have hb0 : Below w.heap.size w ((w.alloc (.cells #[.int .i64 5, .int .i64 g, .slice none 0 0, .slice none 0 0, .string ⟨#[]⟩, .int .i64 0, .int .i64 0, .slice none 0 0, .slice none 0 0, .bool false] 67)).alloc (.cells #[.string ⟨#[]⟩] 9)) := below_alloc' (below_alloc' (Below.refl _ _) _) _
  generalize World.alloc (World.alloc w _) _ = w1 at hz0 hl0 hb0 ⊢
  refine (fields_const _ lverbs lverbs_fields (by decide +kernel) (by decide) _ (HT.out.below hb0)).mono ?_
  rintro e w2 ⟨rfl, hf, hb2⟩
  rw [show lverbs.length = 7 from rfl]
  have cf : w2.cell? ⟨w1.heap.size, 4, none⟩ = some (.string ⟨#[97, 98, 111, 114, 116]⟩) := hf.cell (j := 4) (by decide)
  have hz2 := block_below hz0 hb2
  have hl2 := block_below hl0 hb2
  have hb20 := below_call hb0 hb2
  have r0 := cell_of_block hz2 0 _ rfl
  have g0 := cell_of_block hl2 0 _ rfl
  have ff := free_of_block hl2 0
  have hz3 := (Below.heap_setCell w2 ⟨w.heap.size + 1, 0, none⟩ (.string ⟨#[97, 98, 111, 114, 116]⟩) w.heap.size (by simp)).trans hz2
  have hl3 := heap_setCell_same w2 (w.heap.size + 1) 0 _ _ (.string ⟨#[97, 98, 111, 114, 116]⟩) hl2
  have hb3 := hb20.setCell (p := ⟨w.heap.size + 1, 0, none⟩) (Nat.le_succ _) (.string ⟨#[97, 98, 111, 114, 116]⟩)
  have q0 := fun o => cell_of_block (block_below hz3 (below_alloc' (Below.refl _ _) o)) 0 _ rfl
  have q1 := fun o => cell_of_block (block_below hz3 (below_alloc' (Below.refl _ _) o)) 1 _ rfl
  have q4 := cell_of_block hz3 4 _ rfl
  have q5 := cell_of_block hz3 5 _ rfl
  have q6 := cell_of_block hz3 6 _ rfl
  have q7 := cell_of_block hz3 7 _ rfl
  have q8 := cell_of_block hz3 8 _ rfl
  have q9 := cell_of_block hz3 9 _ rfl
  have hb5 : Below w.heap.size w ((w2.setCell ⟨w.heap.size + 1, 0, none⟩ (.string ⟨#[97, 98, 111, 114, 116]⟩)).alloc (.cells #[.string ⟨#[]⟩, .int .i64 0, .int .i64 0, .slice none 0 0, .slice none 0 0, .bool false] 60)) := below_call hb3 (below_alloc' (Below.refl _ _) _)
  have hz5 := block_below hz3 (below_alloc' (Below.refl _ _) (.cells #[.string ⟨#[]⟩, .int .i64 0, .int .i64 0, .slice none 0 0, .slice none 0 0, .bool false] 60))
  have hl5 := block_below hl3 (below_alloc' (Below.refl _ _) (.cells #[.string ⟨#[]⟩, .int .i64 0, .int .i64 0, .slice none 0 0, .slice none 0 0, .bool false] 60))
  have HZ5 := Lib.hid hz5
  have HL5 := Lib.hid hl5
  have HB5 := Lib.hid hb5
  clear hz0 hl0 hb0 hf hz2 hl2 hb20 hz3 hl3 hb3 hb2 hz5 hl5 hb5
  go_wp2_with fail
  refine (itoa_nat _ (HT.out.below HB5.out) g (by omega)).mono ?_
  rw [HZD.out]
  rintro e w6 ⟨rfl, hb⟩
  have HB6 := Lib.hid (below_call HB5.out hb)
  have HZ6 := Lib.hid (block_below HZ5.out hb)
  have HO6 := Lib.hid (own_lit' (block_below HL5.out hb) (n := 1) (size := 1) rfl (by decide) (Nat.le_refl _))
  clear hb cf r0 g0 ff q0 q1 q4 q5 q6 q7 q8 q9
  go_wp2_with (at_builtin; (refine list_appends elt_strs _ _ rfl rfl rfl rfl (own_below HO6.out (below_alloc' (Below.refl _ _) _)) (show [Value.string zd].length = 1 * 1 from rfl) (World.news_of_block (alloc_at _ _)) (by simp [Value.oneCell']) (by omega) (by have := HB6.out.size; have := (Array.getElem?_eq_some_iff.1 HZ6.out).1; simp; omega) ?_); intro v' w7 hown hgrow; replace hgrow : World.grownBy _ _ (some (w.heap.size + 1)) := hgrow; have HO7 := Lib.hid hown; have z7 := grown_at hgrow (block_below HZ6.out (below_alloc' (Below.refl _ _) _)) (fun k hk e => by injection hk with hk; omega); have HB7 := Lib.hid ((below_alloc' HB6.out _).grown hgrow (Nat.le_trans HB6.out.size (by simp)) (fun k hk => by injection hk with hk; omega)); have HZ7 := Lib.hid z7; have y0 := cell_of_block z7 0 _ rfl; have y3 := cell_of_block z7 3 _ rfl; clear hown hgrow z7)
  refine (peered_no 5 (by decide) (by decide) w7).mono ?_
  rintro e w8 ⟨rfl, rfl⟩
  go_wp2_with fail
  refine wp_loop_rounds 1 ?_
  rw [rounds_succ]
  obtain ⟨g', cap, rfl, hg', hgs⟩ := (own_forms HO7.out).resolve_left (by rintro ⟨_, h, _⟩; exact absurd h (by omega))
  have hO := HO7.out
  rw [← HZD.out] at hO
  have HO8 := Lib.hid hO
  clear hO
  go_wp2_with fail
  refine (join_strs w7 g' cap (w.heap.size + 1) [[97, 98, 111, 114, 116], Lib.decDigits g] HO8.out (by simp) ?_).mono ?_
  · rw [join_two]
    simp
    omega
  · rintro e w9 ⟨rfl, hb9⟩
    have HB9 := Lib.hid (below_call HB7.out hb9)
    clear hb9
    go_wp2
    go_ret
    exact ⟨rfl, HB9.out⟩
set_option maxHeartbeats 4000000 in
set_option maxRecDepth 1000000 in
theorem ltext_g6 (g : Nat) (w : World) (ht : Tabs w) (hg : g ≤ 999999) :
    Calls Tryz.prog 110 #[.agg #[.int .i64 6, .int .i64 g, .slice none 0 0, .slice none 0 0, .string ⟨#[]⟩, .int .i64 0, .int .i64 0, .slice none 0 0, .slice none 0 0, .bool false]] w fun e w' => e = .returned (.string (str (Lib.join [[114, 101, 108, 101, 97, 115, 101], Lib.decDigits g] [32]))) ∧ Below w.heap.size w w' := by
  have HT := Lib.hid ht
  obtain ⟨zd, hzd⟩ : ∃ z, str (Lib.decDigits g) = z := ⟨_, rfl⟩
  have HZD := Lib.hid hzd
  have hdl : (Lib.decDigits g).length ≤ 21 := by
    have := Lib.itoa_length_le g (by omega) (by omega)
    rwa [Lib.itoa_nonneg] at this
  clear ht hzd
  go_enter Tryz.func110, Tryz.ntmps110
  go_wp2_with fail
  have hz0 := block_below (alloc_at w (.cells #[.int .i64 6, .int .i64 g, .slice none 0 0, .slice none 0 0, .string ⟨#[]⟩, .int .i64 0, .int .i64 0, .slice none 0 0, .slice none 0 0, .bool false] 67)) (below_alloc' (Below.refl _ _) (.cells #[.string ⟨#[]⟩] 9))
  have hl0 := alloc_second w (.cells #[.int .i64 6, .int .i64 g, .slice none 0 0, .slice none 0 0, .string ⟨#[]⟩, .int .i64 0, .int .i64 0, .slice none 0 0, .slice none 0 0, .bool false] 67) (.cells #[.string ⟨#[]⟩] 9)
  have hb0 : Below w.heap.size w ((w.alloc (.cells #[.int .i64 6, .int .i64 g, .slice none 0 0, .slice none 0 0, .string ⟨#[]⟩, .int .i64 0, .int .i64 0, .slice none 0 0, .slice none 0 0, .bool false] 67)).alloc (.cells #[.string ⟨#[]⟩] 9)) := below_alloc' (below_alloc' (Below.refl _ _) _) _
  generalize World.alloc (World.alloc w _) _ = w1 at hz0 hl0 hb0 ⊢
  refine (fields_const _ lverbs lverbs_fields (by decide +kernel) (by decide) _ (HT.out.below hb0)).mono ?_
  rintro e w2 ⟨rfl, hf, hb2⟩
  rw [show lverbs.length = 7 from rfl]
  have cf : w2.cell? ⟨w1.heap.size, 5, none⟩ = some (.string ⟨#[114, 101, 108, 101, 97, 115, 101]⟩) := hf.cell (j := 5) (by decide)
  have hz2 := block_below hz0 hb2
  have hl2 := block_below hl0 hb2
  have hb20 := below_call hb0 hb2
  have r0 := cell_of_block hz2 0 _ rfl
  have g0 := cell_of_block hl2 0 _ rfl
  have ff := free_of_block hl2 0
  have hz3 := (Below.heap_setCell w2 ⟨w.heap.size + 1, 0, none⟩ (.string ⟨#[114, 101, 108, 101, 97, 115, 101]⟩) w.heap.size (by simp)).trans hz2
  have hl3 := heap_setCell_same w2 (w.heap.size + 1) 0 _ _ (.string ⟨#[114, 101, 108, 101, 97, 115, 101]⟩) hl2
  have hb3 := hb20.setCell (p := ⟨w.heap.size + 1, 0, none⟩) (Nat.le_succ _) (.string ⟨#[114, 101, 108, 101, 97, 115, 101]⟩)
  have q0 := fun o => cell_of_block (block_below hz3 (below_alloc' (Below.refl _ _) o)) 0 _ rfl
  have q1 := fun o => cell_of_block (block_below hz3 (below_alloc' (Below.refl _ _) o)) 1 _ rfl
  have q4 := cell_of_block hz3 4 _ rfl
  have q5 := cell_of_block hz3 5 _ rfl
  have q6 := cell_of_block hz3 6 _ rfl
  have q7 := cell_of_block hz3 7 _ rfl
  have q8 := cell_of_block hz3 8 _ rfl
  have q9 := cell_of_block hz3 9 _ rfl
  have hb5 : Below w.heap.size w ((w2.setCell ⟨w.heap.size + 1, 0, none⟩ (.string ⟨#[114, 101, 108, 101, 97, 115, 101]⟩)).alloc (.cells #[.string ⟨#[]⟩, .int .i64 0, .int .i64 0, .slice none 0 0, .slice none 0 0, .bool false] 60)) := below_call hb3 (below_alloc' (Below.refl _ _) _)
  have hz5 := block_below hz3 (below_alloc' (Below.refl _ _) (.cells #[.string ⟨#[]⟩, .int .i64 0, .int .i64 0, .slice none 0 0, .slice none 0 0, .bool false] 60))
  have hl5 := block_below hl3 (below_alloc' (Below.refl _ _) (.cells #[.string ⟨#[]⟩, .int .i64 0, .int .i64 0, .slice none 0 0, .slice none 0 0, .bool false] 60))
  have HZ5 := Lib.hid hz5
  have HL5 := Lib.hid hl5
  have HB5 := Lib.hid hb5
  clear hz0 hl0 hb0 hf hz2 hl2 hb20 hz3 hl3 hb3 hb2 hz5 hl5 hb5
  go_wp2_with fail
  refine (itoa_nat _ (HT.out.below HB5.out) g (by omega)).mono ?_
  rw [HZD.out]
  rintro e w6 ⟨rfl, hb⟩
  have HB6 := Lib.hid (below_call HB5.out hb)
  have HZ6 := Lib.hid (block_below HZ5.out hb)
  have HO6 := Lib.hid (own_lit' (block_below HL5.out hb) (n := 1) (size := 1) rfl (by decide) (Nat.le_refl _))
  clear hb cf r0 g0 ff q0 q1 q4 q5 q6 q7 q8 q9
  go_wp2_with (at_builtin; (refine list_appends elt_strs _ _ rfl rfl rfl rfl (own_below HO6.out (below_alloc' (Below.refl _ _) _)) (show [Value.string zd].length = 1 * 1 from rfl) (World.news_of_block (alloc_at _ _)) (by simp [Value.oneCell']) (by omega) (by have := HB6.out.size; have := (Array.getElem?_eq_some_iff.1 HZ6.out).1; simp; omega) ?_); intro v' w7 hown hgrow; replace hgrow : World.grownBy _ _ (some (w.heap.size + 1)) := hgrow; have HO7 := Lib.hid hown; have z7 := grown_at hgrow (block_below HZ6.out (below_alloc' (Below.refl _ _) _)) (fun k hk e => by injection hk with hk; omega); have HB7 := Lib.hid ((below_alloc' HB6.out _).grown hgrow (Nat.le_trans HB6.out.size (by simp)) (fun k hk => by injection hk with hk; omega)); have HZ7 := Lib.hid z7; have y0 := cell_of_block z7 0 _ rfl; have y3 := cell_of_block z7 3 _ rfl; clear hown hgrow z7)
  refine (peered_no 6 (by decide) (by decide) w7).mono ?_
  rintro e w8 ⟨rfl, rfl⟩
  go_wp2_with fail
  refine wp_loop_rounds 1 ?_
  rw [rounds_succ]
  obtain ⟨g', cap, rfl, hg', hgs⟩ := (own_forms HO7.out).resolve_left (by rintro ⟨_, h, _⟩; exact absurd h (by omega))
  have hO := HO7.out
  rw [← HZD.out] at hO
  have HO8 := Lib.hid hO
  clear hO
  go_wp2_with fail
  refine (join_strs w7 g' cap (w.heap.size + 1) [[114, 101, 108, 101, 97, 115, 101], Lib.decDigits g] HO8.out (by simp) ?_).mono ?_
  · rw [join_two]
    simp
    omega
  · rintro e w9 ⟨rfl, hb9⟩
    have HB9 := Lib.hid (below_call HB7.out hb9)
    clear hb9
    go_wp2
    go_ret
    exact ⟨rfl, HB9.out⟩
set_option maxHeartbeats 4000000 in
set_option maxRecDepth 1000000 in
theorem ltext_gone (nm : List UInt8) (w : World) (ht : Tabs w) (hg : nm.length ≤ 4294967000) :
    Calls Tryz.prog 110 #[.agg #[.int .i64 2, .int .i64 0, .slice none 0 0, .slice none 0 0, .string (str nm), .int .i64 0, .int .i64 0, .slice none 0 0, .slice none 0 0, .bool false]] w fun e w' => e = .returned (.string (str (Lib.join [[103, 111, 110, 101], nm] [32]))) ∧ Below w.heap.size w w' := by
  have HT := Lib.hid ht
  obtain ⟨zd, hzd⟩ : ∃ z, str (nm) = z := ⟨_, rfl⟩
  have HZD := Lib.hid hzd
  rw [hzd]
  clear ht hzd
  go_enter Tryz.func110, Tryz.ntmps110
  go_wp2_with fail
  have hz0 := block_below (alloc_at w (.cells #[.int .i64 2, .int .i64 0, .slice none 0 0, .slice none 0 0, .string zd, .int .i64 0, .int .i64 0, .slice none 0 0, .slice none 0 0, .bool false] 67)) (below_alloc' (Below.refl _ _) (.cells #[.string ⟨#[]⟩] 9))
  have hl0 := alloc_second w (.cells #[.int .i64 2, .int .i64 0, .slice none 0 0, .slice none 0 0, .string zd, .int .i64 0, .int .i64 0, .slice none 0 0, .slice none 0 0, .bool false] 67) (.cells #[.string ⟨#[]⟩] 9)
  have hb0 : Below w.heap.size w ((w.alloc (.cells #[.int .i64 2, .int .i64 0, .slice none 0 0, .slice none 0 0, .string zd, .int .i64 0, .int .i64 0, .slice none 0 0, .slice none 0 0, .bool false] 67)).alloc (.cells #[.string ⟨#[]⟩] 9)) := below_alloc' (below_alloc' (Below.refl _ _) _) _
  generalize World.alloc (World.alloc w _) _ = w1 at hz0 hl0 hb0 ⊢
  refine (fields_const _ lverbs lverbs_fields (by decide +kernel) (by decide) _ (HT.out.below hb0)).mono ?_
  rintro e w2 ⟨rfl, hf, hb2⟩
  rw [show lverbs.length = 7 from rfl]
  have cf : w2.cell? ⟨w1.heap.size, 1, none⟩ = some (.string ⟨#[103, 111, 110, 101]⟩) := hf.cell (j := 1) (by decide)
  have hz2 := block_below hz0 hb2
  have hl2 := block_below hl0 hb2
  have hb20 := below_call hb0 hb2
  have r0 := cell_of_block hz2 0 _ rfl
  have g0 := cell_of_block hl2 0 _ rfl
  have ff := free_of_block hl2 0
  have hz3 := (Below.heap_setCell w2 ⟨w.heap.size + 1, 0, none⟩ (.string ⟨#[103, 111, 110, 101]⟩) w.heap.size (by simp)).trans hz2
  have hl3 := heap_setCell_same w2 (w.heap.size + 1) 0 _ _ (.string ⟨#[103, 111, 110, 101]⟩) hl2
  have hb3 := hb20.setCell (p := ⟨w.heap.size + 1, 0, none⟩) (Nat.le_succ _) (.string ⟨#[103, 111, 110, 101]⟩)
  have q0 := fun o => cell_of_block (block_below hz3 (below_alloc' (Below.refl _ _) o)) 0 _ rfl
  have q1 := fun o => cell_of_block (block_below hz3 (below_alloc' (Below.refl _ _) o)) 1 _ rfl
  have q4 := cell_of_block hz3 4 _ rfl
  have q5 := cell_of_block hz3 5 _ rfl
  have q6 := cell_of_block hz3 6 _ rfl
  have q7 := cell_of_block hz3 7 _ rfl
  have q8 := cell_of_block hz3 8 _ rfl
  have q9 := cell_of_block hz3 9 _ rfl
  have hb5 : Below w.heap.size w ((w2.setCell ⟨w.heap.size + 1, 0, none⟩ (.string ⟨#[103, 111, 110, 101]⟩)).alloc (.cells #[.string zd, .int .i64 0, .int .i64 0, .slice none 0 0, .slice none 0 0, .bool false] 60)) := below_call hb3 (below_alloc' (Below.refl _ _) _)
  have hz5 := block_below hz3 (below_alloc' (Below.refl _ _) (.cells #[.string zd, .int .i64 0, .int .i64 0, .slice none 0 0, .slice none 0 0, .bool false] 60))
  have hl5 := block_below hl3 (below_alloc' (Below.refl _ _) (.cells #[.string zd, .int .i64 0, .int .i64 0, .slice none 0 0, .slice none 0 0, .bool false] 60))
  have hn5 := alloc_at (w2.setCell ⟨w.heap.size + 1, 0, none⟩ (.string ⟨#[103, 111, 110, 101]⟩)) (.cells #[.string zd, .int .i64 0, .int .i64 0, .slice none 0 0, .slice none 0 0, .bool false] 60)
  rw [World.size_setCell] at hn5
  clear hz0 hl0 hb0 hf hz2 hl2 hb20 hb2
  go_upto_region 9 with fail
  clear q0 q1 q4 q5 q6 q7 q8 q9 r0 g0 ff cf hz3 hl3 hb3
  generalize World.alloc _ (.cells #[.string zd, .int .i64 0, .int .i64 0, .slice none 0 0, .slice none 0 0, .bool false] 60) = w5 at hz5 hl5 hn5 hb5 ⊢
  have n0 := cell_of_block hn5 0 (.string zd) rfl
  have k0 := cell_of_block hz5 0 (.int .i64 2) rfl
  have HZ5 := Lib.hid hz5
  have HB5 := Lib.hid hb5
  have HO6 := Lib.hid (own_lit' hl5 (n := 1) (size := 1) rfl (by decide) (Nat.le_refl _))
  clear hz5 hl5 hn5 hb5
  go_wp2_with (at_builtin; (refine list_appends elt_strs _ _ rfl rfl rfl rfl (own_below HO6.out (below_alloc' (Below.refl _ _) _)) (show [Value.string zd].length = 1 * 1 from rfl) (World.news_of_block (alloc_at _ _)) (by simp [Value.oneCell']) (by omega) (by have := HB5.out.size; have := (Array.getElem?_eq_some_iff.1 HZ5.out).1; simp; omega) ?_); intro v' w7 hown hgrow; replace hgrow : World.grownBy _ _ (some (w.heap.size + 1)) := hgrow; have HO7 := Lib.hid hown; have z7 := grown_at hgrow (block_below HZ5.out (below_alloc' (Below.refl _ _) _)) (fun k hk e => by injection hk with hk; omega); have HB7 := Lib.hid ((below_alloc' HB5.out _).grown hgrow (Nat.le_trans HB5.out.size (by simp)) (fun k hk => by injection hk with hk; omega)); have HZ7 := Lib.hid z7; have y0 := cell_of_block z7 0 _ rfl; have y3 := cell_of_block z7 3 _ rfl; clear hown hgrow z7)
  refine (peered_no 2 (by decide) (by decide) w7).mono ?_
  rintro e w8 ⟨rfl, rfl⟩
  go_wp2_with fail
  refine wp_loop_rounds 1 ?_
  rw [rounds_succ]
  obtain ⟨g', cap, rfl, hg', hgs⟩ := (own_forms HO7.out).resolve_left (by rintro ⟨_, h, _⟩; exact absurd h (by omega))
  have hO := HO7.out
  rw [← HZD.out] at hO
  have HO8 := Lib.hid hO
  clear hO
  go_wp2_with fail
  refine (join_strs w7 g' cap (w.heap.size + 1) [[103, 111, 110, 101], nm] HO8.out (by simp) ?_).mono ?_
  · rw [join_two]
    simp
    omega
  · rintro e w9 ⟨rfl, hb9⟩
    have HB9 := Lib.hid (below_call HB7.out hb9)
    clear hb9
    go_wp2
    go_ret
    exact ⟨rfl, HB9.out⟩
end Go.Proofs.YtofofjfmhaggmaaGreatDoor
