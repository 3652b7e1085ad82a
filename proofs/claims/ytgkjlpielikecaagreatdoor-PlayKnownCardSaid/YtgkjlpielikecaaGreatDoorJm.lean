/- Any event read; the chapter's lines. -/
import Derived.Test.YtgkjlpielikecaaGreatDoorJk
import Derived.Test.YtgkjlpielikecaaGreatDoorTk
set_option linter.unusedVariables false
set_option linter.unusedSimpArgs false
namespace Go.Proofs.YtgkjlpielikecaaGreatDoor
open Go.RowKit

def kindS (s : List UInt8) : Nat := kindOf ((splitC 32 s).getD 0 [])
def evOk (s : List UInt8) : Bool := if kindS s = 1 then twoOk 112 (splitC 32 s) else if kindS s = 4 then twoOk 110 (splitC 32 s) else if kindS s = 5 then twoOk 109 (splitC 32 s) else if kindS s = 10 then twoOk 98 (splitC 32 s) else oneOk (splitC 32 s)
def evS (s : List UInt8) : EvS := if kindS s = 1 then twoE 1 112 (splitC 32 s) else if kindS s = 4 then twoE 4 110 (splitC 32 s) else if kindS s = 5 then twoE 5 109 (splitC 32 s) else if kindS s = 10 then twoE 10 98 (splitC 32 s) else ⟨numV ((splitC 32 s).getD 1 []), 0, 0, [], noNode⟩
/-- Any line read: the event, or none. -/
theorem event_any (s : List UInt8) (hs : s.length ≤ 4294967000) (w : World) (ht : Tabs w) : Calls Tryz.prog 12 #[.string (str s)] w (EventPost (kindS s) (evOk s) (evS s) w) := by
  by_cases h1 : kindS s = 1
  · have := event_two s hs 112 1 h1 (.inl ⟨rfl, rfl⟩) w ht
    unfold evOk evS
    rw [if_pos h1, if_pos h1, h1]
    exact this
  · by_cases h4 : kindS s = 4
    · have := event_two s hs 110 4 h4 (.inr (.inl ⟨rfl, rfl⟩)) w ht
      unfold evOk evS
      rw [if_neg h1, if_neg h1, if_pos h4, if_pos h4, h4]
      exact this
    · by_cases h5 : kindS s = 5
      · have := event_two s hs 109 5 h5 (.inr (.inr (.inl ⟨rfl, rfl⟩))) w ht
        unfold evOk evS
        rw [if_neg h1, if_neg h1, if_neg h4, if_neg h4, if_pos h5, if_pos h5, h5]
        exact this
      · by_cases h10 : kindS s = 10
        · have := event_two s hs 98 10 h10 (.inr (.inr (.inr ⟨rfl, rfl⟩))) w ht
          unfold evOk evS
          rw [if_neg h1, if_neg h1, if_neg h4, if_neg h4, if_neg h5, if_neg h5, if_pos h10, if_pos h10, h10]
          exact this
        · unfold evOk evS
          rw [if_neg h1, if_neg h1, if_neg h4, if_neg h4, if_neg h5, if_neg h5, if_neg h10, if_neg h10]
          refine (event_one s (by omega) (fun k hk => by rw [← hk]; exact ⟨h1, h4, h5, h10⟩) w ht).mono ?_
          rintro e w' ⟨rfl, hb⟩
          by_cases ho : oneOk (splitC 32 s) = true
          · refine ⟨_, by unfold oneC; rw [ho], fun _ => ?_, fun h => (by rw [ho] at h; cases h), hb⟩
            unfold oneV
            rw [if_pos ho]
            exact ⟨.slice none 0 0, .slice none 0 0, .slice none 0 0, rfl, PodsT.nil _ _, World.ownsRow_nil _ _ _ _, World.ownsRow_nil _ _ _ _⟩
          · refine ⟨_, by unfold oneC; rw [if_neg ho], fun h => absurd h ho, fun _ => ?_, hb⟩
            unfold oneV
            rw [if_neg ho]
            rfl
def evBB (k : Nat) (s : EvS) : Bool :=
  decide (s.a ≤ 999999) && (decide (s.b ≤ 999999) && (decide (s.id ≤ 999999) && (s.pods.all (fun p => decide (p.shard ≤ 999999) && (decide (p.cpu ≤ 1099511627776) && (decide (p.mem ≤ 1099511627776) && decide ((podT p).length ≤ 4294967000)))) && (decide (s.pods.length ≤ 4294967000) && (decide (s.node.cpu ≤ 9223372036854775807) && (decide (s.node.mem ≤ 9223372036854775807) && (decide ((nodeT s.node).length ≤ 4294967000) && (decide (s.node.marks.length ≤ 4294967281) && (decide (s.node.taints.length ≤ 4294967281) && decide ((textE k s).length ≤ 140737488355328))))))))))
theorem EvB.of {k : Nat} {s : EvS} (h : evBB k s = true) : EvB k s := by
  unfold evBB at h
  simp only [Bool.and_eq_true, decide_eq_true_eq] at h
  obtain ⟨h1, h2, h3, h4, h5, h6, h7, h8, h9, h10, h11⟩ := h
  refine ⟨h1, h2, h3, fun p hp => ?_, h5, ⟨h6, h7, h8, h9, h10⟩, h11⟩
  have := List.all_eq_true.1 h4 p hp
  simpa only [Bool.and_eq_true, decide_eq_true_eq] using this
/-- The chapter's lines. -/
def lines23 : List (List UInt8) := [[115, 117, 98, 109, 105, 116, 32, 55, 32, 112, 64, 49, 58, 50, 44, 51, 43, 98, 105, 103, 126, 206, 179, 33, 32, 206, 177, 64, 50, 58, 48, 44, 48], [99, 97, 110, 99, 101, 108, 32, 55], [112, 117, 116, 32, 49, 32, 110, 49, 58, 52, 44, 52, 43, 115, 115, 100], [103, 111, 110, 101, 32, 50, 32, 110, 49], [100, 101, 108, 105, 118, 101, 114, 32, 48], [99, 114, 97, 115, 104, 32, 48, 32, 51], [115, 116, 97, 114, 116, 32, 52], [115, 117, 98, 109, 105, 116, 32, 48], [116, 105, 99, 107, 32, 57, 57, 57, 57, 57, 57], [115, 117, 98, 109, 105, 116], [99, 97, 110, 99, 101, 108], [99, 97, 110, 99, 101, 108, 32, 55, 32, 56], [112, 117, 116, 32, 49], [112, 117, 116, 32, 49, 32, 78, 58, 49, 44, 49], [103, 111, 110, 101, 32, 49, 32], [100, 101, 108, 105, 118, 101, 114, 32, 45, 49], [99, 114, 97, 115, 104, 32, 49], [116, 105, 99, 107, 32, 49, 48, 48, 48, 48, 48, 48], [115, 117, 98, 109, 105, 116, 32, 49, 32, 112, 64, 49, 58, 49], [115, 117, 98, 109, 105, 116, 32, 49, 32, 112, 64, 49, 58, 49, 44, 49, 43, 98, 43, 97], [84, 105, 99, 107, 32, 49], [115, 117, 98, 109, 105, 116, 32, 48, 49], [115, 116, 97, 114, 116, 32, 49, 32]]
theorem lines_good : ∀ l ∈ lines23.take 9, evOk l = true ∧ textE (kindS l) (evS l) = l ∧ 1 ≤ kindS l ∧ kindS l ≤ 11 ∧ evBB (kindS l) (evS l) = true ∧ l.length ≤ 100 := by
  have h : (lines23.take 9).all (fun l => evOk l && (decide (textE (kindS l) (evS l) = l) && (decide (1 ≤ kindS l) && (decide (kindS l ≤ 11) && (evBB (kindS l) (evS l) && decide (l.length ≤ 100)))))) = true := by decide +kernel
  intro l hl
  have := List.all_eq_true.1 h l hl
  simpa only [Bool.and_eq_true, decide_eq_true_eq] using this
theorem lines_bad : ∀ l ∈ lines23.drop 9, evOk l = false ∧ l.length ≤ 100 := by
  have h : (lines23.drop 9).all (fun l => !evOk l && decide (l.length ≤ 100)) = true := by decide +kernel
  intro l hl
  have := List.all_eq_true.1 h l hl
  simpa only [Bool.and_eq_true, decide_eq_true_eq, Bool.not_eq_true'] using this
theorem same_nil (w : World) : Calls Tryz.prog 70 #[.slice none 0 0, .slice none 0 0] w fun e w' => e = .returned (.bool true) ∧ w = w' := by
  go_enter Tryz.func70, Tryz.ntmps70
  go_wp2
  refine wp_loop_rounds 1 ?_
  rw [rounds_succ]
  go_wp2
  go_ret
  exact ⟨rfl, rfl⟩
theorem rpods_nil (w : World) : Calls Tryz.prog 37 #[.slice none 0 0, .slice none 0 0] w fun e w' => e = .returned (.bool true) ∧ w = w' := by
  go_enter Tryz.func37, Tryz.ntmps37
  go_wp2
  refine wp_loop_rounds 1 ?_
  rw [rounds_succ]
  go_wp2
  go_ret
  exact ⟨rfl, rfl⟩
set_option maxHeartbeats 1000000 in
set_option maxRecDepth 100000 in
theorem rnode_zero (w : World) : Calls Tryz.prog 38 #[.agg #[.string ⟨#[]⟩, .int .i64 0, .int .i64 0, .slice none 0 0, .slice none 0 0, .bool false], .agg #[.string ⟨#[]⟩, .int .i64 0, .int .i64 0, .slice none 0 0, .slice none 0 0, .bool false]] w fun e w' => e = .returned (.bool true) ∧ Below w.heap.size w w' := by
  go_enter Tryz.func38, Tryz.ntmps38
  go_wp2_with fail
  refine (same_nil _).mono ?_
  rintro e w1 ⟨rfl, rfl⟩
  go_wp2_with fail
  refine (same_nil _).mono ?_
  rintro e w1 ⟨rfl, rfl⟩
  go_wp2
  go_ret
  exact ⟨rfl, below_alloc' (below_alloc' (Below.refl _ _) _) _⟩
set_option maxHeartbeats 1000000 in
set_option maxRecDepth 100000 in
theorem same_zero (w : World) : Calls Tryz.prog 14 #[zeroEv, zeroEv] w fun e w' => e = .returned (.bool true) ∧ Below w.heap.size w w' := by
  unfold zeroEv
  go_enter Tryz.func14, Tryz.ntmps14
  go_wp2_with fail
  have hb : ∀ o o', Below w.heap.size w ((w.alloc o).alloc o') := fun o o' => below_alloc' (below_alloc' (Below.refl _ _) _) _
  refine (rpods_nil _).mono ?_
  rintro e w1 ⟨rfl, rfl⟩
  go_wp2_with fail
  refine (rnode_zero _).mono ?_
  rintro e w2 ⟨rfl, hb2⟩
  have HB := Lib.hid (below_call (hb _ _) hb2)
  clear hb hb2
  go_wp2
  go_ret
  exact ⟨rfl, HB.out⟩
end Go.Proofs.YtgkjlpielikecaaGreatDoor
/-! PlayKnown: the law's walk. -/
set_option linter.unusedVariables false
set_option linter.unusedSimpArgs false
namespace Go.Proofs.YtgkjlpielikecaaGreatDoor
open Go.RowKit

set_option maxHeartbeats 4000000 in
set_option maxRecDepth 100000 in
theorem playKnown_any (which : Int) (w : World) (ht : Tabs w) : Calls Tryz.prog 5 #[.int .i64 which] w fun e w' => e = .returned (.bool true) ∧ Below w.heap.size w w' := by
  have HT := Lib.hid ht
  clear ht
  go_enter Tryz.func5, Tryz.ntmps5
  go_wp2_with fail
  refine (known_any w HT.out).mono ?_
  rintro e w1 ⟨rfl, hb1⟩
  have HB1 := Lib.hid hb1
  clear hb1
  go_wp2_with fail
  refine (within15_any which 23 (by omega) (by omega) _).mono ?_
  rintro e w2 ⟨rfl, hw2⟩
  have hl2 : Blk w2 w1.heap.size lines23 := by rw [← hw2]; exact alloc_at _ _
  have hb2 : Below w1.heap.size w1 w2 := by rw [← hw2]; exact below_alloc' (Below.refl _ _) _
  clear hw2
  obtain ⟨k, hk⟩ : ∃ k : Nat, which % 23 = k := ⟨(which % 23).toNat, by omega⟩
  have hk23 : k < lines23.length := by show k < 23; omega
  have hk23' : (k : Int) < 23 := by omega
  rw [hk]
  clear hk
  have cj := hl2.cell hk23
  have hgood : k < 9 → evOk lines23[k] = true ∧ textE (kindS lines23[k]) (evS lines23[k]) = lines23[k] ∧ 1 ≤ kindS lines23[k] ∧ kindS lines23[k] ≤ 11 ∧ evBB (kindS lines23[k]) (evS lines23[k]) = true ∧ lines23[k].length ≤ 100 := fun h =>
    lines_good _ (by
      have h1 : (lines23.take 9)[k]? = some lines23[k] := by rw [List.getElem?_take, if_pos h, List.getElem?_eq_getElem hk23]
      exact List.mem_of_getElem? h1)
  have hbadl : ¬ k < 9 → evOk lines23[k] = false ∧ lines23[k].length ≤ 100 := fun h =>
    lines_bad _ (by
      have h1 : (lines23.drop 9)[k - 9]? = some lines23[k] := by rw [List.getElem?_drop, show 9 + (k - 9) = k by omega, List.getElem?_eq_getElem hk23]
      exact List.mem_of_getElem? h1)
  obtain ⟨l, hl⟩ : ∃ l, lines23[k] = l := ⟨_, rfl⟩
  rw [hl] at cj hgood hbadl
  have hl100 : l.length ≤ 100 := by
    by_cases h : k < 9
    · exact (hgood h).2.2.2.2.2
    · exact (hbadl h).2
  obtain ⟨z, hz⟩ : ∃ z, str l = z := ⟨_, rfl⟩
  rw [hz] at cj
  have HZ := Lib.hid hz
  have HGO := Lib.hid hgood
  have HBA := Lib.hid hbadl
  have HL2 := Lib.hid hl2
  have HB2 := Lib.hid (below_call HB1.out hb2)
  have H100 := Lib.hid hl100
  clear hl2 hb2 hgood hbadl hl hz hl100
  go_wp2_with fail
  have hea := event_any l (by have := H100.out; omega) w2 (HT.out.below HB2.out)
  rw [HZ.out] at hea
  refine hea.mono ?_
  clear hea
  rintro e w3 ⟨v, rfl, hgv, hbv, hb3⟩
  have hc3 : w3.cell? ⟨w1.heap.size, k, none⟩ = some (.string z) := cell_below cj hb3
  have HC3 := Lib.hid hc3
  have HB3 := Lib.hid (below_call HB2.out hb3)
  by_cases h9 : k < 9
  · obtain ⟨g1, g2, g3, g4, g5, -⟩ := HGO.out h9
    have h9' : (k : Int) < 9 := by omega
    rw [g1, if_pos rfl]
    obtain ⟨kd, hkd⟩ : ∃ kd, kindS l = kd := ⟨_, rfl⟩
    obtain ⟨S, hS⟩ : ∃ S, evS l = S := ⟨_, rfl⟩
    have hR := hgv g1
    rw [hkd, hS] at hR g2 g5
    rw [hkd] at g3 g4
    obtain ⟨vp, u, x, rfl, hp9, hu9, hx9⟩ := id hR
    obtain ⟨cp9, hcp9, -⟩ := id hp9
    obtain ⟨avp, lvp, cvp, rfl⟩ := own_slice hcp9
    obtain ⟨au, lu, cu, rfl⟩ := own_slice hu9
    obtain ⟨ax, lx, cx, rfl⟩ := own_slice hx9
    obtain ⟨zn, hzn⟩ : ∃ z, str S.node.name = z := ⟨_, rfl⟩
    obtain ⟨fl, hfl⟩ : ∃ z, S.node.closed = z := ⟨_, rfl⟩
    rw [hzn, hfl] at hR
    rw [hzn, hfl]
    have hR3 := Lib.hid hR
    have G2 := Lib.hid g2
    have G3 := Lib.hid g3
    have G4 := Lib.hid g4
    have G5 := Lib.hid (EvB.of g5)
    have hev : (w3.alloc (.cells #[.int .i64 kd, .int .i64 S.a, .int .i64 S.b, .int .i64 S.id, .slice avp lvp cvp, .string zn, .int .i64 S.node.cpu, .int .i64 S.node.mem, .slice au lu cu, .slice ax lx cx, .bool fl] 38)).heap[w3.heap.size]? = some (.cells #[.int .i64 kd, .int .i64 S.a, .int .i64 S.b, .int .i64 S.id, .slice avp lvp cvp, .string zn, .int .i64 S.node.cpu, .int .i64 S.node.mem, .slice au lu cu, .slice ax lx cx, .bool fl] 38 (0, 0)) := alloc_at _ _
    have hc4 : (w3.alloc (.cells #[.int .i64 kd, .int .i64 S.a, .int .i64 S.b, .int .i64 S.id, .slice avp lvp cvp, .string zn, .int .i64 S.node.cpu, .int .i64 S.node.mem, .slice au lu cu, .slice ax lx cx, .bool fl] 38)).cell? ⟨w1.heap.size, k, none⟩ = some (.string z) := cell_below hc3 (below_alloc' (Below.refl _ _) _)
    have hR4 : EvR w2.heap.size (w3.alloc (.cells #[.int .i64 kd, .int .i64 S.a, .int .i64 S.b, .int .i64 S.id, .slice avp lvp cvp, .string zn, .int .i64 S.node.cpu, .int .i64 S.node.mem, .slice au lu cu, .slice ax lx cx, .bool fl] 38)) (.agg #[.int .i64 kd, .int .i64 S.a, .int .i64 S.b, .int .i64 S.id, .slice avp lvp cvp, .string zn, .int .i64 S.node.cpu, .int .i64 S.node.mem, .slice au lu cu, .slice ax lx cx, .bool fl]) kd S := hR.below (below_alloc' (Below.refl _ _) _)
    have hb4 : Below w.heap.size w (w3.alloc (.cells #[.int .i64 kd, .int .i64 S.a, .int .i64 S.b, .int .i64 S.id, .slice avp lvp cvp, .string zn, .int .i64 S.node.cpu, .int .i64 S.node.mem, .slice au lu cu, .slice ax lx cx, .bool fl] 38)) := below_call HB3.out (below_alloc' (Below.refl _ _) _)
    clear hgv hbv hb3 hc3 hR hp9 hu9 hx9 hcp9 hzn hfl g1 g2 g3 g4 g5 cj
    go_upto_region 7 with fail
    generalize World.alloc w3 _ = w5 at hev hc4 hR4 hb4 ⊢
    have hs : ∀ w6, Below w5.drew.heap.size w5.drew w6 → w6.cell? ⟨w3.heap.size, 0, none⟩ = some (.int .i64 kd) ∧ w6.cell? ⟨w3.heap.size, 1, none⟩ = some (.int .i64 S.a) ∧ w6.cell? ⟨w3.heap.size, 2, none⟩ = some (.int .i64 S.b) ∧ w6.cell? ⟨w3.heap.size, 3, none⟩ = some (.int .i64 S.id) ∧ w6.cell? ⟨w3.heap.size, 4, none⟩ = some (.slice avp lvp cvp) ∧ w6.cell? ⟨w3.heap.size, 5, none⟩ = some (.string zn) ∧ w6.cell? ⟨w3.heap.size, 6, none⟩ = some (.int .i64 S.node.cpu) ∧ w6.cell? ⟨w3.heap.size, 7, none⟩ = some (.int .i64 S.node.mem) ∧ w6.cell? ⟨w3.heap.size, 8, none⟩ = some (.slice au lu cu) ∧ w6.cell? ⟨w3.heap.size, 9, none⟩ = some (.slice ax lx cx) ∧ w6.cell? ⟨w3.heap.size, 10, none⟩ = some (.bool fl) ∧ w6.cell? ⟨w1.heap.size, k, none⟩ = some (.string z) := fun w6 h => by
      have hq := block_below (w := w5.drew) hev h
      exact ⟨cell_of_block hq 0 _ rfl, cell_of_block hq 1 _ rfl, cell_of_block hq 2 _ rfl, cell_of_block hq 3 _ rfl, cell_of_block hq 4 _ rfl, cell_of_block hq 5 _ rfl, cell_of_block hq 6 _ rfl, cell_of_block hq 7 _ rfl, cell_of_block hq 8 _ rfl, cell_of_block hq 9 _ rfl, cell_of_block hq 10 _ rfl, cell_below (w := w5.drew) hc4 h⟩
    have HS := Lib.hid hs
    have HB5 := Lib.hid hb4
    have HR5 := Lib.hid (hR4.below (Below.refl w5.heap.size w5).drew)
    clear hs hev hc4 hR4 hb4
    refine' Par.wp_region_pars (fun w w' => Below w.heap.size w w') 12 (by kernel_rfl) (by kernel_rfl) (by kernel_rfl) (by kernel_rfl) (by kernel_rfl) (by kernel_rfl)
      (fun w => Below.refl _ w) (fun h k => below_call h k) (fun vals => ?_)
    rotate_left
    simp only [List.take_succ_cons, List.take_zero, List.drop_succ_cons, List.drop_zero]
    (apply Par.par_x rfl; (focus (intro w6 hR hD K hK; replace hK := Lib.hid hK; skip; clear hR hD; go_simp; exact hK.out _ (Below.refl _ _))); simp only [Act.put, List.setIfInBounds_toArray, List.set_cons_zero, List.set_cons_succ, Nat.reduceAdd, List.cons_append, List.nil_append])
    (apply Par.par_x rfl; (focus (intro w6 hR hD K hK; replace hK := Lib.hid hK; skip; clear hR hD; go_simp; exact hK.out _ (Below.refl _ _))); simp only [Act.put, List.setIfInBounds_toArray, List.set_cons_zero, List.set_cons_succ, Nat.reduceAdd, List.cons_append, List.nil_append])
    (apply Par.par_x rfl; (focus (intro w6 hR hD K hK; replace hK := Lib.hid hK; skip; clear hR hD; go_simp; exact hK.out _ (Below.refl _ _))); simp only [Act.put, List.setIfInBounds_toArray, List.set_cons_zero, List.set_cons_succ, Nat.reduceAdd, List.cons_append, List.nil_append])
    (apply Par.par_g; (focus (intro w6 hR hD K hK; replace hK := Lib.hid hK; obtain ⟨e0, e1, e2, e3, e4, e5, e6, e7, e8, e9, e10, e11⟩ := HS.out w6 hR; clear hR hD; go_simp; exact hK.out _ (Below.refl _ _))); simp only [Act.put, List.setIfInBounds_toArray, List.set_cons_zero, List.set_cons_succ, Nat.reduceAdd, List.cons_append, List.nil_append])
    (apply Par.par_g; (focus (intro w6 hR hD K hK; replace hK := Lib.hid hK; have htb := HT.out.below (below_call HB5.out.drew hR); have hrr := HR5.out.below hR; replace htb := Lib.hid htb; replace hrr := Lib.hid hrr; clear hR hD; go_simp; have htx := text_any kd G3.out G4.out S w2.heap.size _ w6 htb.out hrr.out G5.out; rw [G2.out, HZ.out] at htx; refine htx.mono ?_; clear htx htb hrr; rintro r w7 ⟨rfl, hb⟩; exact hK.out _ hb)); simp only [Act.put, List.setIfInBounds_toArray, List.set_cons_zero, List.set_cons_succ, Nat.reduceAdd, List.cons_append, List.nil_append])
    (apply Par.par_g; (focus (intro w6 hR hD K hK; replace hK := Lib.hid hK; skip; clear hR hD; go_simp; exact hK.out _ (Below.refl _ _))); simp only [Act.put, List.setIfInBounds_toArray, List.set_cons_zero, List.set_cons_succ, Nat.reduceAdd, List.cons_append, List.nil_append])
    (apply Par.par_g; (focus (intro w6 hR hD K hK; replace hK := Lib.hid hK; skip; clear hR hD; go_simp; exact hK.out _ (Below.refl _ _))); simp only [Act.put, List.setIfInBounds_toArray, List.set_cons_zero, List.set_cons_succ, Nat.reduceAdd, List.cons_append, List.nil_append])
    (apply Par.par_g; (focus (intro w6 hR hD K hK; replace hK := Lib.hid hK; skip; clear hR hD; go_simp; exact hK.out _ (Below.refl _ _))); simp only [Act.put, List.setIfInBounds_toArray, List.set_cons_zero, List.set_cons_succ, Nat.reduceAdd, List.cons_append, List.nil_append])
    (apply Par.par_g; (focus (intro w6 hR hD K hK; replace hK := Lib.hid hK; obtain ⟨e0, e1, e2, e3, e4, e5, e6, e7, e8, e9, e10, e11⟩ := HS.out w6 hR; clear hR hD; go_simp; exact hK.out _ (Below.refl _ _))); simp only [Act.put, List.setIfInBounds_toArray, List.set_cons_zero, List.set_cons_succ, Nat.reduceAdd, List.cons_append, List.nil_append])
    (apply Par.par_g; (focus (intro w6 hR hD K hK; replace hK := Lib.hid hK; skip; clear hR hD; go_simp; exact hK.out _ (Below.refl _ _))); simp only [Act.put, List.setIfInBounds_toArray, List.set_cons_zero, List.set_cons_succ, Nat.reduceAdd, List.cons_append, List.nil_append])
    (apply Par.par_x rfl; (focus (intro w6 hR hD K hK; replace hK := Lib.hid hK; skip; clear hR hD; go_simp; exact hK.out _ (Below.refl _ _))); simp only [Act.put, List.setIfInBounds_toArray, List.set_cons_zero, List.set_cons_succ, Nat.reduceAdd, List.cons_append, List.nil_append])
    (apply Par.par_x rfl; (focus (intro w6 hR hD K hK; replace hK := Lib.hid hK; skip; clear hR hD; go_simp; exact hK.out _ (Below.refl _ _))); simp only [Act.put, List.setIfInBounds_toArray, List.set_cons_zero, List.set_cons_succ, Nat.reduceAdd, List.cons_append, List.nil_append])
    refine Par.par_end fun w6 hR hp => ?_
    clear hp
    have HB6 := Lib.hid (below_call HB5.out.drew hR)
    clear hR HS
    go_wp2
    go_ret
    exact ⟨rfl, HB6.out⟩
  · have h9' : ¬ (k : Int) < 9 := by omega
    have hf := (HBA.out h9).1
    have hv := hbv hf
    rw [hf]
    subst hv
    unfold zeroEv
    have hz5 : Below w3.heap.size w3 (w3.alloc (.cells #[.int .i64 0, .int .i64 0, .int .i64 0, .int .i64 0, .slice none 0 0, .string ⟨#[]⟩, .int .i64 0, .int .i64 0, .slice none 0 0, .slice none 0 0, .bool false] 38)) := below_alloc' (Below.refl _ _) _
    have HZ5 := Lib.hid hz5
    clear hgv hbv hf hz5
    go_wp2_with fail
    refine (same_zero _).mono ?_
    rintro e w6 ⟨rfl, hb6⟩
    have HB6 := Lib.hid (below_call (below_call HB3.out HZ5.out) hb6)
    clear hb6
    go_wp2
    go_ret
    exact ⟨rfl, HB6.out⟩
end Go.Proofs.YtgkjlpielikecaaGreatDoor
