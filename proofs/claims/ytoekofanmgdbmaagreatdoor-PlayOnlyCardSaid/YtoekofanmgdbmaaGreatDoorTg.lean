/- A tick of the coordinator, or of a shard, written as a line. -/
import Derived.Test.YtoekofanmgdbmaaGreatDoorTh
import Derived.Lib.ItoaMem
import Derived.Lib.AppendIntMem
import Derived.Lib.ItoaLen
set_option linter.unusedVariables false
set_option linter.unusedSimpArgs false
namespace Go.Proofs.YtoekofanmgdbmaaGreatDoor
open Go.RowKit

def Int64 (n : Int) : Prop := -9223372036854775808 ≤ n ∧ n ≤ 9223372036854775807
theorem itoa_any (w : World) (ht : Tabs w) (n : Int) (hn : Int64 n) : Calls Tryz.prog 32 #[.int .i64 n] w fun e w' => e = .returned (.string (str (Lib.itoa n))) ∧ Below w.heap.size w w' := by
  refine (Tryz.strconv_Itoa n hn.1 hn.2 w ht.1).mono ?_
  rintro e w' ⟨h1, k, os, rfl⟩
  exact ⟨h1, Lib.below_grow _ _ (Nat.le_refl _) _ _⟩


theorem join_strs (w : World) (g cap base : Nat) (xs : List (List UInt8)) (h : w.ownsRow base 9 1 (.slice (some ⟨g, 0, none⟩) xs.length cap) xs.length (xs.map fun l => .string (str l))) (hx : xs.length ≤ 100) (hl : (Lib.join xs [32]).length ≤ 140737488355328) :
    Calls Tryz.prog 36 #[.slice (some ⟨g, 0, none⟩) xs.length cap, .string ⟨#[32]⟩] w fun e w' => e = .returned (.string (str (Lib.join xs [32]))) ∧ Below w.heap.size w w' := by
  have e1 : (xs.map str).map (fun b : ByteArray => b.data.toList) = xs := by
    rw [List.map_map]
    conv => rhs; rw [← List.map_id xs]
    exact List.map_congr_left fun l _ => by simp [str]
  have hg : g < w.heap.size := by
    rcases own_forms h with ⟨h0, _⟩ | ⟨g', cap', h0, _, h1⟩
    · simp at h0
    · simp only [Value.slice.injEq, Option.some.injEq, Addr.mk.injEq, and_true, true_and] at h0
      rw [h0.1]; exact h1
  have hcap : xs.length ≤ cap := by
    rcases h.2 with ⟨h0, _⟩ | ⟨g', cap', cur, h0, _, _, h1, _⟩
    · simp at h0
    · simp only [Value.slice.injEq, Option.some.injEq, Addr.mk.injEq, and_true, true_and] at h0
      rw [h0.2]; exact h1
  have := Tryz.strings_Join g 0 cap (xs.map str) ⟨#[32]⟩ w (fun j x hj => by
    have hj' : j < xs.length := by have := (List.getElem?_eq_some_iff.1 hj).1; simpa using this
    rw [Nat.zero_add, h.cellAt j (by omega), List.getElem?_map]
    rw [List.getElem?_map] at hj
    obtain ⟨l, hl, rfl⟩ := Option.map_eq_some_iff.1 hj
    rw [hl]; rfl) hg (by simp; omega) (by simpa using hcap) (by rw [e1]; exact hl)
  rw [e1, List.length_map] at this
  exact this


theorem join_two (a b : List UInt8) : Lib.join [a, b] [32] = a ++ 32 :: b := by simp [Lib.join]
theorem dec_len (k : Nat) (h : k < 1000000) : (Lib.decDigits k).length ≤ 21 := by
  have := Lib.itoa_length_le k (by omega) (by omega)
  rwa [Lib.itoa_nonneg] at this
theorem a_dec' : Utf8.decode ⟨#[97]⟩ 0 = (97, 1) := by decide +kernel
set_option maxHeartbeats 4000000 in
set_option maxRecDepth 100000 in
theorem text_tick (k : Nat) (hk : k < 1000000) (w : World) (ht : Tabs w) :
    Calls Tryz.prog 13 #[evV 9 k 0 0 (.slice none 0 0) (.string ⟨#[]⟩) (.int .i64 0) (.int .i64 0) (.slice none 0 0) (.slice none 0 0) (.bool false)] w fun e w' => e = .returned (.string (str (tickT k))) ∧ Below w.heap.size w w' := by
  have HT := Lib.hid ht
  clear ht
  unfold evV
  go_enter Tryz.func13, Tryz.ntmps13
  go_wp2_with fail
  have hb0 : Below w.heap.size w (w.alloc (.cells #[.int .i64 9, .int .i64 k, .int .i64 0, .int .i64 0, .slice none 0 0, .string ⟨#[]⟩, .int .i64 0, .int .i64 0, .slice none 0 0, .slice none 0 0, .bool false] 33)) := below_alloc' (Below.refl _ _) _
  have hz0 : (w.alloc (.cells #[.int .i64 9, .int .i64 k, .int .i64 0, .int .i64 0, .slice none 0 0, .string ⟨#[]⟩, .int .i64 0, .int .i64 0, .slice none 0 0, .slice none 0 0, .bool false] 33)).heap[w.heap.size]? = some (.cells #[.int .i64 9, .int .i64 k, .int .i64 0, .int .i64 0, .slice none 0 0, .string ⟨#[]⟩, .int .i64 0, .int .i64 0, .slice none 0 0, .slice none 0 0, .bool false] 33 (0, 0)) := alloc_at _ _
  generalize World.alloc w _ = w1 at hb0 hz0 ⊢
  refine (fields_const _ verbs verbs_fields (by decide +kernel) (by decide) _ (HT.out.below hb0)).mono ?_
  rintro e w2 ⟨rfl, hf, hb2⟩
  have hz2 := block_below hz0 hb2
  have hB2 := below_call hb0 hb2
  have e0 := cell_of_block hz2 0 _ rfl
  have cf : w2.cell? ⟨w1.heap.size, 8, none⟩ = some (.string ⟨#[116, 105, 99, 107]⟩) := hf.cell (j := 8) (by decide)
  have hv : verbs.length = 11 := rfl
  rw [hv]
  have HZ := Lib.hid hz2
  have HB := Lib.hid hB2
  have hg1 : w.heap.size ≤ w2.heap.size := hB2.size
  clear hb0 hz0 hf hb2 hz2 hB2 hv
  go_wp2_with (at_builtin; refine list_appends elt_strs _ _ rfl rfl rfl rfl (World.ownsRow_nil _ (w.heap.size + 1) _ _) (show [Value.string ⟨#[116, 105, 99, 107]⟩].length = 1 * 1 from rfl) (news_one' (alloc_at _ _)) (by simp [Value.oneCell']) (by omega) (by have := (Array.getElem?_eq_some_iff.1 HZ.out).1; simp; omega) ?_; intro v' w4 hown hgrow; replace hgrow : World.grownBy _ _ none := hgrow; have HO4 := Lib.hid hown; have HG4 := Lib.hid hgrow; have z4 := grown_at HG4.out (block_below HZ.out (below_alloc' (Below.refl _ _) _)) (fun k hk => by cases hk); have q0 := cell_of_block z4 0 _ rfl; have q1 := cell_of_block z4 1 _ rfl; have HZ4 := Lib.hid z4; clear hown hgrow z4)
  have hb24 : Below w.heap.size w w4 := (below_call HB.out (below_alloc' (Below.refl w2.heap.size w2) (.cells #[.string ⟨#[116, 105, 99, 107]⟩] 9))).grown HG4.out (by have := HB.out.size; simp; omega) (fun k hk => by cases hk)
  have HB4 := Lib.hid hb24
  clear hb24
  refine (shape_any 9 w4).mono ?_
  rintro e w5 ⟨rfl, hw5⟩
  rw [hw5]
  clear hw5 w5
  rw [show shapeOf 9 = ⟨#[97]⟩ from rfl]
  go_wp2_with fail
  refine wp_loop_rounds 2 ?_
  rw [rounds_succ]
  have hnx : ∀ ty, (Instr.next (.pointer (some ⟨w4.heap.size, 0, none⟩)) true ty).run Tryz.prog (w4.iter ⟨#[97]⟩ 0) = .ok (.tuple #[.bool true, .int .i64 (0 : Nat), .int .i32 (97 : Nat)]) (w4.iter ⟨#[97]⟩ 1) := fun ty => by
    rw [run_next_any w4 ⟨#[97]⟩ 0 ty (by decide), a_dec']; rfl
  have hi5 : (w4.iter ⟨#[97]⟩ 1).heap[w4.heap.size]? = some (.stringIter ⟨#[97]⟩ 1) := World.iter_heap _ _ _
  have hb5 : Below w4.heap.size w4 (w4.iter ⟨#[97]⟩ 1) := below_alloc' (Below.refl _ _) _
  have z5 := block_below HZ4.out hb5
  have r0 := cell_of_block z5 0 _ rfl
  have r1 := cell_of_block z5 1 _ rfl
  have HZ5 := Lib.hid z5
  have HI5 := Lib.hid hi5
  have HB5 := Lib.hid (below_call HB4.out hb5)
  have HO5 := Lib.hid (own_below HO4.out hb5)
  have HG5 := Lib.hid (show w4.heap.size < (w4.iter ⟨#[97]⟩ 1).heap.size from (Array.getElem?_eq_some_iff.1 hi5).1)
  have HK := Lib.hid hk
  clear z5 hi5 hb5 q0 q1 e0 cf hg1 hk
  generalize w4.iter ⟨#[97]⟩ 1 = w6 at *
  go_wp2_with fail
  refine (itoa_any w6 (HT.out.below HB5.out) k ⟨by omega, by have := HK.out; omega⟩).mono ?_
  rintro e w7 ⟨rfl, hb7⟩
  rw [Lib.itoa_nonneg]
  have HI7 := Lib.hid (block_below HI5.out hb7)
  have HO7 := Lib.hid (own_below HO5.out hb7)
  have HB7 := Lib.hid (below_call HB5.out hb7)
  have HG7 := Lib.hid (show w4.heap.size < w7.heap.size from Nat.lt_of_lt_of_le HG5.out hb7.size)
  have HX := Lib.hid (fun g hg => (HO4.out.lt g hg).2 : ∀ g, v'.ownBlock = some g → g < w4.heap.size)
  clear hb7 hnx r0 r1
  go_wp2_with (at_builtin; refine list_appends elt_strs _ _ rfl rfl rfl rfl (World.ownsRow.alloc HO7.out _) (show [Value.string (str (Lib.decDigits k))].length = 1 * 1 from rfl) (news_one' (alloc_at _ _)) (by simp [Value.oneCell']) (by omega) (by have := HB7.out.size; have := HG7.out; have := HB4.out.size; simp; omega) ?_; intro v2 w8 hown hgrow; replace hgrow : World.grownBy _ _ v'.ownBlock := hgrow; have HO8 := Lib.hid hown; have HG8 := Lib.hid hgrow; clear hown hgrow)
  have hi8 := grown_at HG8.out (block_below HI7.out (below_alloc' (Below.refl _ _) _)) (fun g hg e => by have := HX.out g hg; omega)
  have hnx2 : ∀ ty, (Instr.next (.pointer (some ⟨w4.heap.size, 0, none⟩)) true ty).run Tryz.prog w8 = _ := fun ty => Lib.run_next_end_at w8 w4.heap.size ⟨#[97]⟩ 1 ty hi8 (by decide)
  have hb8 := (below_call HB7.out (below_alloc' (Below.refl w7.heap.size w7) (.cells #[.string (str (Lib.decDigits k))] 9))).grown HG8.out (by have := HB7.out.size; simp; omega) (fun g hg => Nat.le_trans (Nat.le_succ _) (HO4.out.lt g hg).1)
  have HB8 := Lib.hid hb8
  clear hi8 hb8
  rw [rounds_succ]
  obtain ⟨g, cap, rfl, hg, hgs⟩ := (own_forms HO8.out).resolve_left (by rintro ⟨_, h, _⟩; exact absurd h (by omega))
  go_wp2_with fail
  refine (join_strs w8 g cap (w.heap.size + 1) [[116, 105, 99, 107], Lib.decDigits k] HO8.out (by simp) ?_).mono ?_
  · rw [join_two]
    have := dec_len k HK.out
    simp
    omega
  · rintro e w9 ⟨rfl, hb9⟩
    have HB9 := Lib.hid (below_call HB8.out hb9)
    clear hb9
    go_wp2
    go_ret
    exact ⟨ret_str (by rw [join_two]; rfl), HB9.out⟩
end Go.Proofs.YtoekofanmgdbmaaGreatDoor
