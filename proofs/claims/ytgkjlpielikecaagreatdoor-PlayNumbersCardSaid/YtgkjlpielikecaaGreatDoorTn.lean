/- PlayNumbers: the law's walk. -/
import Derived.Test.YtgkjlpielikecaaGreatDoorTg
import Derived.Test.YtgkjlpielikecaaGreatDoorTm
set_option linter.unusedVariables false
set_option linter.unusedSimpArgs false
namespace Go.Proofs.YtgkjlpielikecaaGreatDoor
open Go.RowKit

theorem oneC_bad {ws : List (List UInt8)} (h : oneC ws = 8) : oneV ws = .agg #[.int .i64 0, .int .i64 0, .int .i64 0, .int .i64 0, .slice none 0 0, .string ⟨#[]⟩, .int .i64 0, .int .i64 0, .slice none 0 0, .slice none 0 0, .bool false] := by
  unfold oneC at h
  unfold oneV
  by_cases hk : oneOk ws = true
  · rw [if_pos hk] at h; exact absurd h (by decide)
  · rw [if_neg hk]; rfl
set_option maxHeartbeats 4000000 in
set_option maxRecDepth 100000 in
theorem playNumbers_any (n which : Int) (w : World) (ht : Tabs w) : Calls Tryz.prog 6 #[.int .i64 n, .int .i64 which] w fun e w' => e = .returned (.bool true) ∧ Below w.heap.size w w' := by
  have HT := Lib.hid ht
  clear ht
  go_enter Tryz.func6, Tryz.ntmps6
  go_wp2_with fail
  refine (known_any w HT.out).mono ?_
  rintro e w1 ⟨rfl, hb1⟩
  have HB1 := Lib.hid hb1
  clear hb1
  go_wp2_with fail
  refine (within15_any _ _ (by omega) (by omega) _).mono ?_
  rintro e w2 ⟨rfl, rfl⟩
  obtain ⟨k, hk⟩ : ∃ k : Nat, n % 1000000 = k := ⟨(n % 1000000).toNat, by omega⟩
  have hk6 : k < 1000000 := by omega
  have HK6 := Lib.hid hk6
  rw [hk]
  clear hk hk6
  go_wp2_with fail
  refine (make_tick k HK6.out _).mono ?_
  rintro e w2 ⟨rfl, hb2⟩
  have HB2 := Lib.hid (below_call HB1.out hb2)
  clear hb2
  unfold tickE evV
  go_wp2_with fail
  have hb4 : Below w2.heap.size w2 ((w2.alloc (.cells #[.int .i64 9, .int .i64 k, .int .i64 0, .int .i64 0, .slice none 0 0, .string ⟨#[]⟩, .int .i64 0, .int .i64 0, .slice none 0 0, .slice none 0 0, .bool false] 38)).alloc (.cells #[.int .i64 9, .int .i64 k, .int .i64 0, .int .i64 0, .slice none 0 0, .string ⟨#[]⟩, .int .i64 0, .int .i64 0, .slice none 0 0, .slice none 0 0, .bool false] 39)) := below_alloc' (below_alloc' (Below.refl _ _) _) _
  have z4 : ((w2.alloc (.cells #[.int .i64 9, .int .i64 k, .int .i64 0, .int .i64 0, .slice none 0 0, .string ⟨#[]⟩, .int .i64 0, .int .i64 0, .slice none 0 0, .slice none 0 0, .bool false] 38)).alloc (.cells #[.int .i64 9, .int .i64 k, .int .i64 0, .int .i64 0, .slice none 0 0, .string ⟨#[]⟩, .int .i64 0, .int .i64 0, .slice none 0 0, .slice none 0 0, .bool false] 39)).heap[w2.heap.size]? = some (.cells #[.int .i64 9, .int .i64 k, .int .i64 0, .int .i64 0, .slice none 0 0, .string ⟨#[]⟩, .int .i64 0, .int .i64 0, .slice none 0 0, .slice none 0 0, .bool false] 38 (0, 0)) := by
    rw [Below.heap_alloc _ _ _ (by simp)]; exact alloc_at _ _
  generalize World.alloc (World.alloc w2 _) _ = w4 at hb4 z4 ⊢
  have hB4 := below_call HB2.out hb4
  refine (text_tick k HK6.out w4 (HT.out.below hB4)).mono ?_
  rintro e w5 ⟨rfl, hb5⟩
  have z5 := block_below z4 hb5
  have hB5 := below_call hB4 hb5
  have HB5 := Lib.hid hB5
  have HZ5 := Lib.hid z5
  clear hb4 z4 hB4 hb5 z5 hB5
  go_wp2_with fail
  refine (event_one (tickT k) (by have := dec_len k HK6.out; simp [tickT]; omega) (by intro j hj; rw [tickT_kind] at hj; subst hj; decide) w5 (HT.out.below HB5.out)).mono ?_
  rintro e w6 ⟨rfl, hb6⟩
  rw [(tickT_one HK6.out).1, (tickT_one HK6.out).2]
  have HB6 := Lib.hid (below_call HB5.out hb6)
  have HZ6 := Lib.hid (block_below HZ5.out hb6)
  clear hb6
  unfold evV
  go_wp2_with fail
  refine (within15_any which 10 (by omega) (by omega) _).mono ?_
  rintro e w7 ⟨rfl, hw7⟩
  have hl7 : Blk w7 (w6.heap.size + 1) bads := by rw [← hw7]; exact alloc_second _ _ _
  have hz7 : w7.heap[w6.heap.size]? = some (.cells #[.int .i64 9, .int .i64 k, .int .i64 0, .int .i64 0, .slice none 0 0, .string ⟨#[]⟩, .int .i64 0, .int .i64 0, .slice none 0 0, .slice none 0 0, .bool false] 38 (0, 0)) := by rw [← hw7, Below.heap_alloc _ _ _ (by simp)]; exact alloc_at _ _
  have hb7 : Below w6.heap.size w6 w7 := by rw [← hw7]; exact below_alloc' (below_alloc' (Below.refl _ _) _) _
  clear hw7
  obtain ⟨j, hj⟩ : ∃ j : Nat, which % 10 = j := ⟨(which % 10).toNat, by omega⟩
  have hj10 : j < bads.length := by show j < 10; omega
  have hj10' : (j : Int) < 10 := by omega
  rw [hj]
  clear hj
  have hbb := bads_bad bads[j] (List.getElem_mem hj10)
  have cj := hl7.cell hj10
  obtain ⟨bt, hbt⟩ : ∃ bt, bads[j] = bt := ⟨_, rfl⟩
  rw [hbt] at hbb cj
  obtain ⟨zt, hzt⟩ : ∃ zt, str bt = zt := ⟨_, rfl⟩
  rw [hzt] at cj
  have HZT := Lib.hid hzt
  have HBB := Lib.hid hbb
  have HZ7 := Lib.hid hz7
  have HY7 := Lib.hid (block_below HZ6.out hb7)
  have HB7 := Lib.hid (below_call HB6.out hb7)
  clear hl7 hz7 hb7 hbt hzt hbb hj10
  go_wp2_with fail
  rw [← HZT.out]
  refine (event_one bt (by have := HBB.out.2.2; omega) (by intro q hq; rw [HBB.out.1] at hq; subst hq; decide) w7 (HT.out.below HB7.out)).mono ?_
  rintro e w8 ⟨rfl, hb8⟩
  rw [oneC_bad HBB.out.2.1, HBB.out.2.1]
  have hx := block_below HZ7.out hb8
  have hy := block_below HY7.out hb8
  have p0 : ∀ o, (w8.alloc o).cell? ⟨w2.heap.size, 0, none⟩ = some (.int .i64 9) := fun o => cell_of_block (block_below hy (below_alloc' (Below.refl _ _) _)) 0 _ rfl
  have x0 : ∀ o, (w8.alloc o).cell? ⟨w6.heap.size, 0, none⟩ = some (.int .i64 9) := fun o => cell_of_block (block_below hx (below_alloc' (Below.refl _ _) _)) 0 _ rfl
  have x1 : ∀ o, (w8.alloc o).cell? ⟨w6.heap.size, 1, none⟩ = some (.int .i64 k) := fun o => cell_of_block (block_below hx (below_alloc' (Below.refl _ _) _)) 1 _ rfl
  have HB8 := Lib.hid (below_call HB7.out hb8)
  clear hx hy hb8 cj
  go_wp2
  go_ret
  exact ⟨rfl, below_alloc' HB8.out _⟩
end Go.Proofs.YtgkjlpielikecaaGreatDoor
