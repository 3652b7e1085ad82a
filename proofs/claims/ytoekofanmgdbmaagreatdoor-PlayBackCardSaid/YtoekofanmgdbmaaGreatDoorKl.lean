/- PlayBack: the law's walk. -/
import Derived.Test.YtoekofanmgdbmaaGreatDoorKi
import Derived.Test.YtoekofanmgdbmaaGreatDoorKk
set_option linter.unusedVariables false
set_option linter.unusedSimpArgs false
namespace Go.Proofs.YtoekofanmgdbmaaGreatDoor
open Go.RowKit

set_option maxHeartbeats 8000000 in
set_option maxRecDepth 1000000 in
theorem playBack_any (kd a b : Int) (v : Value) (ps : List Int) (n : Int) (w : World) (hn : Nums w v ps) (ht : Tabs w) : Calls Tryz.prog 4 #[.int .i64 kd, .int .i64 a, .int .i64 b, v, .int .i64 n] w fun e w' => e = .returned (.bool true) ∧ Below w.heap.size w w' := by
  have HT := Lib.hid ht
  have HN := Lib.hid hn
  obtain ⟨pa, pc, rfl, hnl, _⟩ := hn
  clear ht
  have HQB := Lib.hid (evQ_B kd a b ps n)
  have HQG := Lib.hid (evQ_good kd a b ps n)
  have HQK := Lib.hid (ev_back (evQ_good kd a b ps n))
  have HMK := Lib.hid (fun w h => make_any kd a b (.slice pa ps.length pc) ps n w h)
  obtain ⟨k, hk⟩ : ∃ k, (evQ kd a b ps n).kind = k := ⟨_, rfl⟩
  obtain ⟨S, hS⟩ : ∃ S, evSof (evQ kd a b ps n) = S := ⟨_, rfl⟩
  have hk1 : 1 ≤ k := by rw [← hk]; exact HQG.out.1
  have hk2 : k ≤ 11 := by rw [← hk]; exact HQG.out.2.1
  rw [hk, hS] at HQB HQK
  simp only [hk, hS] at HMK
  have HK1 := Lib.hid hk1
  have HK2 := Lib.hid hk2
  clear hk hS HQG hk1 hk2
  obtain ⟨zn, hzn⟩ : ∃ z, str S.node.name = z := ⟨_, rfl⟩
  obtain ⟨fl, hfl⟩ : ∃ z, S.node.closed = z := ⟨_, rfl⟩
  have HZN := Lib.hid hzn
  have HFL := Lib.hid hfl
  obtain ⟨t, htx⟩ : ∃ t, textE k S = t := ⟨_, rfl⟩
  rw [htx] at HQB HQK
  have HTX := Lib.hid htx
  obtain ⟨zt, hzt⟩ : ∃ z, str t = z := ⟨_, rfl⟩
  have HZT := Lib.hid hzt
  clear hzn hfl htx hzt
  go_enter Tryz.func4, Tryz.ntmps4
  go_wp2_with fail
  refine (known_any w HT.out).mono ?_
  rintro e w1 ⟨rfl, hb1⟩
  have HB1 := Lib.hid hb1
  clear hb1
  go_wp2_with fail
  refine (HMK.out w1 (HN.out.below HB1.out)).mono ?_
  rintro e w2 ⟨ev1, rfl, hR1, hb2⟩
  obtain ⟨vp1, u1, x1, e1, hp1, hu1, hx1⟩ := id hR1
  obtain ⟨cp1, hcp1, -⟩ := id hp1
  obtain ⟨avp1, lvp1, cvp1, rfl⟩ := own_slice hcp1
  obtain ⟨au1, lu1, cu1, rfl⟩ := own_slice hu1
  obtain ⟨ax1, lx1, cx1, rfl⟩ := own_slice hx1
  rw [HZN.out, HFL.out] at e1
  subst e1
  clear hp1 hu1 hx1 hcp1
  have HB2 := Lib.hid (below_call HB1.out hb2)
  clear hb2
  have HR2 := Lib.hid hR1
  clear hR1
  go_wp2_with fail
  have z4 : ((w2.alloc (.cells #[.int .i64 k, .int .i64 S.a, .int .i64 S.b, .int .i64 S.id, .slice avp1 lvp1 cvp1, .string zn, .int .i64 S.node.cpu, .int .i64 S.node.mem, .slice au1 lu1 cu1, .slice ax1 lx1 cx1, .bool fl] 33)).alloc (.cells #[.int .i64 k, .int .i64 S.a, .int .i64 S.b, .int .i64 S.id, .slice avp1 lvp1 cvp1, .string zn, .int .i64 S.node.cpu, .int .i64 S.node.mem, .slice au1 lu1 cu1, .slice ax1 lx1 cx1, .bool fl] 34)).heap[w2.heap.size]? = some (.cells #[.int .i64 k, .int .i64 S.a, .int .i64 S.b, .int .i64 S.id, .slice avp1 lvp1 cvp1, .string zn, .int .i64 S.node.cpu, .int .i64 S.node.mem, .slice au1 lu1 cu1, .slice ax1 lx1 cx1, .bool fl] 33 (0, 0)) := block_below (alloc_at _ _) (below_alloc' (Below.refl _ _) _)
  have z5 : ((w2.alloc (.cells #[.int .i64 k, .int .i64 S.a, .int .i64 S.b, .int .i64 S.id, .slice avp1 lvp1 cvp1, .string zn, .int .i64 S.node.cpu, .int .i64 S.node.mem, .slice au1 lu1 cu1, .slice ax1 lx1 cx1, .bool fl] 33)).alloc (.cells #[.int .i64 k, .int .i64 S.a, .int .i64 S.b, .int .i64 S.id, .slice avp1 lvp1 cvp1, .string zn, .int .i64 S.node.cpu, .int .i64 S.node.mem, .slice au1 lu1 cu1, .slice ax1 lx1 cx1, .bool fl] 34)).heap[w2.heap.size + 1]? = some (.cells #[.int .i64 k, .int .i64 S.a, .int .i64 S.b, .int .i64 S.id, .slice avp1 lvp1 cvp1, .string zn, .int .i64 S.node.cpu, .int .i64 S.node.mem, .slice au1 lu1 cu1, .slice ax1 lx1 cx1, .bool fl] 34 (0, 0)) := alloc_is (by simp) _
  have hb4 : Below w2.heap.size w2 ((w2.alloc (.cells #[.int .i64 k, .int .i64 S.a, .int .i64 S.b, .int .i64 S.id, .slice avp1 lvp1 cvp1, .string zn, .int .i64 S.node.cpu, .int .i64 S.node.mem, .slice au1 lu1 cu1, .slice ax1 lx1 cx1, .bool fl] 33)).alloc (.cells #[.int .i64 k, .int .i64 S.a, .int .i64 S.b, .int .i64 S.id, .slice avp1 lvp1 cvp1, .string zn, .int .i64 S.node.cpu, .int .i64 S.node.mem, .slice au1 lu1 cu1, .slice ax1 lx1 cx1, .bool fl] 34)) := below_alloc' (below_alloc' (Below.refl _ _) _) _
  generalize World.alloc (World.alloc w2 _) _ = w4 at z4 z5 hb4 ⊢
  have HB4 := Lib.hid (below_call HB2.out hb4)
  have HR4 := Lib.hid (HR2.out.below hb4)
  refine (text_any k HK1.out HK2.out S _ _ w4 (HT.out.below HB4.out) HR4.out HQB.out.1).mono ?_
  rintro e w5 ⟨rfl, hb5⟩
  rw [HTX.out, HZT.out]
  have HB5 := Lib.hid (below_call HB4.out hb5)
  have HR5 := Lib.hid (HR4.out.below hb5)
  have HZ5 := Lib.hid (block_below z5 hb5)
  clear z4 z5 hb4 hb5
  go_wp2_with fail
  have hea := event_any t (by have := HQB.out.2; omega) w5 (HT.out.below HB5.out)
  rw [HZT.out] at hea
  refine hea.mono ?_
  clear hea
  rintro e w6 ⟨ev2, rfl, hgv, hbv, hb6⟩
  have hR6 := hgv HQK.out.2.1
  rw [HQK.out.1, HQK.out.2.2] at hR6
  rw [HQK.out.2.1, if_pos rfl]
  clear hgv hbv
  obtain ⟨vp2, u2, x2, e2, hp2, hu2, hx2⟩ := id hR6
  obtain ⟨cp2, hcp2, -⟩ := id hp2
  obtain ⟨avp2, lvp2, cvp2, rfl⟩ := own_slice hcp2
  obtain ⟨au2, lu2, cu2, rfl⟩ := own_slice hu2
  obtain ⟨ax2, lx2, cx2, rfl⟩ := own_slice hx2
  rw [HZN.out, HFL.out] at e2
  subst e2
  clear hp2 hu2 hx2 hcp2
  have HB6 := Lib.hid (below_call HB5.out hb6)
  have HR6 := Lib.hid (HR5.out.below hb6)
  have HQ6 := Lib.hid hR6
  have HZ6 := Lib.hid (block_below HZ5.out hb6)
  clear hb6 hR6
  go_upto_region 6 with fail
  have z7 : (w6.alloc (.cells #[.int .i64 k, .int .i64 S.a, .int .i64 S.b, .int .i64 S.id, .slice avp2 lvp2 cvp2, .string zn, .int .i64 S.node.cpu, .int .i64 S.node.mem, .slice au2 lu2 cu2, .slice ax2 lx2 cx2, .bool fl] 33)).heap[w6.heap.size]? = some (.cells #[.int .i64 k, .int .i64 S.a, .int .i64 S.b, .int .i64 S.id, .slice avp2 lvp2 cvp2, .string zn, .int .i64 S.node.cpu, .int .i64 S.node.mem, .slice au2 lu2 cu2, .slice ax2 lx2 cx2, .bool fl] 33 (0, 0)) := alloc_at _ _
  have y7 : (w6.alloc (.cells #[.int .i64 k, .int .i64 S.a, .int .i64 S.b, .int .i64 S.id, .slice avp2 lvp2 cvp2, .string zn, .int .i64 S.node.cpu, .int .i64 S.node.mem, .slice au2 lu2 cu2, .slice ax2 lx2 cx2, .bool fl] 33)).heap[w2.heap.size + 1]? = some (.cells #[.int .i64 k, .int .i64 S.a, .int .i64 S.b, .int .i64 S.id, .slice avp1 lvp1 cvp1, .string zn, .int .i64 S.node.cpu, .int .i64 S.node.mem, .slice au1 lu1 cu1, .slice ax1 lx1 cx1, .bool fl] 34 (0, 0)) := block_below HZ6.out (below_alloc' (Below.refl _ _) _)
  have hb7 : Below w6.heap.size w6 (w6.alloc (.cells #[.int .i64 k, .int .i64 S.a, .int .i64 S.b, .int .i64 S.id, .slice avp2 lvp2 cvp2, .string zn, .int .i64 S.node.cpu, .int .i64 S.node.mem, .slice au2 lu2 cu2, .slice ax2 lx2 cx2, .bool fl] 33)) := below_alloc' (Below.refl _ _) _
  generalize World.alloc w6 _ = w7 at z7 y7 hb7 ⊢
  have HB7 := Lib.hid (below_call HB6.out hb7)
  have HR7 := Lib.hid (HR6.out.below hb7)
  have HQ7 := Lib.hid (HQ6.out.below hb7)
  have c0 := cell_of_block y7 0 _ rfl
  have c1 := cell_of_block y7 1 _ rfl
  have c2 := cell_of_block y7 2 _ rfl
  have c3 := cell_of_block y7 3 _ rfl
  have c4 := cell_of_block y7 4 _ rfl
  have c5 := cell_of_block y7 5 _ rfl
  have c6 := cell_of_block y7 6 _ rfl
  have c7 := cell_of_block y7 7 _ rfl
  have c8 := cell_of_block y7 8 _ rfl
  have c9 := cell_of_block y7 9 _ rfl
  have c10 := cell_of_block y7 10 _ rfl
  have HZ7 := Lib.hid z7
  have HY7 := Lib.hid y7
  clear z7 y7 hb7
  go_wp2_with fail
  refine (rtext_any k HK1.out HK2.out S _ _ w7 HR7.out HQB.out.1).mono ?_
  rintro e w8 ⟨rfl, hb8⟩
  rw [HTX.out, HZT.out]
  have z8 := block_below HZ7.out hb8
  have y8 := block_below HY7.out hb8
  have HB8 := Lib.hid (below_call HB7.out hb8)
  have HR8 := Lib.hid (HR7.out.below hb8)
  have HQ8 := Lib.hid (HQ7.out.below hb8)
  clear hb8 c0 c1 c2 c3 c4 c5 c6 c7 c8 c9 c10
  have c0 := cell_of_block y8 0 _ rfl
  have c1 := cell_of_block y8 1 _ rfl
  have c2 := cell_of_block y8 2 _ rfl
  have c3 := cell_of_block y8 3 _ rfl
  have c4 := cell_of_block y8 4 _ rfl
  have c5 := cell_of_block y8 5 _ rfl
  have c6 := cell_of_block y8 6 _ rfl
  have c7 := cell_of_block y8 7 _ rfl
  have c8 := cell_of_block y8 8 _ rfl
  have c9 := cell_of_block y8 9 _ rfl
  have c10 := cell_of_block y8 10 _ rfl
  have d0 := cell_of_block z8 0 _ rfl
  have d1 := cell_of_block z8 1 _ rfl
  have d2 := cell_of_block z8 2 _ rfl
  have d3 := cell_of_block z8 3 _ rfl
  have d4 := cell_of_block z8 4 _ rfl
  have d5 := cell_of_block z8 5 _ rfl
  have d6 := cell_of_block z8 6 _ rfl
  have d7 := cell_of_block z8 7 _ rfl
  have d8 := cell_of_block z8 8 _ rfl
  have d9 := cell_of_block z8 9 _ rfl
  have d10 := cell_of_block z8 10 _ rfl
  clear z8 y8
  go_wp2_with fail
  refine (ev_same _ _ w8 _ _ k S HQ8.out HR8.out HQB.out.1).mono ?_
  rintro e w9 ⟨rfl, hb9⟩
  have HB9 := Lib.hid (below_call HB8.out hb9)
  clear hb9 c0 c1 c2 c3 c4 c5 c6 c7 c8 c9 c10 d0 d1 d2 d3 d4 d5 d6 d7 d8 d9 d10
  go_wp2
  go_ret
  exact ⟨rfl, HB9.out⟩
theorem playBack_row (a0 a1 a2 : Int) (a3 : Option Addr) (len3 cap3 : Nat) (z3 : List Int) (a4 : Int) (w : World) (w3 : IsRow .i64 w a3 len3 cap3 z3) (y3 : len3 * 8 ≤ 140737488351232) (ht : Tabs w) :
    Calls Tryz.prog 4 #[.int .i64 a0, .int .i64 a1, .int .i64 a2, .slice a3 len3 cap3, .int .i64 a4] w fun e w' => e = .returned (.bool true) ∧ Below w.heap.size w w' :=
  playBack_any a0 a1 a2 _ _ a4 w (nums_row w3 y3) ht
end Go.Proofs.YtoekofanmgdbmaaGreatDoor
