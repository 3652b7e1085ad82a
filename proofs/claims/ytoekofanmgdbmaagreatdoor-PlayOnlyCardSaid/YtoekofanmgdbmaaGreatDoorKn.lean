/- PlayOnly: the law's walk. -/
import Derived.Test.YtoekofanmgdbmaaGreatDoorYb
import Derived.Test.YtoekofanmgdbmaaGreatDoorKm
import Derived.Test.YtoekofanmgdbmaaGreatDoorKd
set_option linter.unusedVariables false
set_option linter.unusedSimpArgs false
namespace Go.Proofs.YtoekofanmgdbmaaGreatDoor
open Go.RowKit

theorem textE_ne (k : Nat) (h1 : 1 ≤ k) (h2 : k ≤ 11) (s : EvS) : 0 < (textE k s).length := by
  have ht : textE k s = evT ⟨k, s.a, s.b, s.id, s.pods, s.node⟩ := textE_T ⟨k, s.a, s.b, s.id, s.pods, s.node⟩
  rw [ht, evT, List.length_append]
  have hv : 0 < (verb k).length := by
    rcases (by omega : k = 1 ∨ k = 2 ∨ k = 3 ∨ k = 4 ∨ k = 5 ∨ k = 6 ∨ k = 7 ∨ k = 8 ∨ k = 9 ∨ k = 10 ∨ k = 11) with rfl | rfl | rfl | rfl | rfl | rfl | rfl | rfl | rfl | rfl | rfl <;> decide
  show 0 < (verb k).length + _
  omega
theorem add_u8 (x : UInt8) (y : Nat) : ((x + UInt8.ofNat y).toNat : Int) = IntKind.u8.wrap ((x.toNat : Int) + y) := by
  simp [IntKind.wrap, IntKind.signed, IntKind.bits, UInt8.toNat_add]

set_option maxHeartbeats 8000000 in
set_option maxRecDepth 1000000 in
theorem playOnly_any (kd a b : Int) (v : Value) (ps : List Int) (n at_ : Int) (y : Nat) (hy : y < 256) (w : World) (hn : Nums w v ps) (ht : Tabs w) : Calls Tryz.prog 5 #[.int .i64 kd, .int .i64 a, .int .i64 b, v, .int .i64 n, .int .i64 at_, .int .u8 y] w fun e w' => e = .returned (.bool true) ∧ Below w.heap.size w w' := by
  have HT := Lib.hid ht
  have HN := Lib.hid hn
  obtain ⟨pa, pc, rfl, hnl, _⟩ := hn
  clear ht
  have HQB := Lib.hid (evQ_B kd a b ps n)
  have HQG := Lib.hid (evQ_good kd a b ps n)
  have HMK := Lib.hid (fun w h => make_any kd a b (.slice pa ps.length pc) ps n w h)
  obtain ⟨k, hk⟩ : ∃ k, (evQ kd a b ps n).kind = k := ⟨_, rfl⟩
  obtain ⟨S, hS⟩ : ∃ S, evSof (evQ kd a b ps n) = S := ⟨_, rfl⟩
  have hk1 : 1 ≤ k := by rw [← hk]; exact HQG.out.1
  have hk2 : k ≤ 11 := by rw [← hk]; exact HQG.out.2.1
  rw [hk, hS] at HQB
  simp only [hk, hS] at HMK
  have HK1 := Lib.hid hk1
  have HK2 := Lib.hid hk2
  have htn := textE_ne k hk1 hk2 S
  clear hk hS HQG hk1 hk2
  obtain ⟨zn, hzn⟩ : ∃ z, str S.node.name = z := ⟨_, rfl⟩
  obtain ⟨fl, hfl⟩ : ∃ z, S.node.closed = z := ⟨_, rfl⟩
  have HZN := Lib.hid hzn
  have HFL := Lib.hid hfl
  obtain ⟨t, htx⟩ : ∃ t, textE k S = t := ⟨_, rfl⟩
  rw [htx] at HQB htn
  have HTX := Lib.hid htx
  obtain ⟨zt, hzt⟩ : ∃ z, str t = z := ⟨_, rfl⟩
  have HZT := Lib.hid hzt
  clear hzn hfl htx
  obtain ⟨tl, htl⟩ : ∃ z, t.length = z := ⟨_, rfl⟩
  rw [htl] at htn
  have hztl : zt.size = tl := by rw [← hzt, ← htl]; rfl
  have HTL := Lib.hid htl
  have htl4 : tl ≤ 4000 := by rw [← htl]; exact HQB.out.2
  clear htl
  obtain ⟨ix, hix⟩ : ∃ ix : Nat, at_ % (tl : Int) = ix := ⟨(at_ % (tl : Int)).toNat, by have := Int.emod_nonneg at_ (show (tl : Int) ≠ 0 by omega); omega⟩
  have hixl : ix < tl := by have := Int.emod_lt_of_pos at_ (show (0 : Int) < tl by omega); omega
  obtain ⟨t1, ht1⟩ : ∃ t1, t.set ix (t.getD ix 0 + UInt8.ofNat y) = t1 := ⟨_, rfl⟩
  have HT1 := Lib.hid ht1
  obtain ⟨zt1, hzt1⟩ : ∃ z, str t1 = z := ⟨_, rfl⟩
  have HZT1 := Lib.hid hzt1
  have ht1l : t1.length ≤ 4000 := by rw [← ht1, List.length_set, HTL.out]; exact htl4
  have HT1L := Lib.hid ht1l
  obtain ⟨b0, hb0⟩ : ∃ b0 : Int, ((t.getD ix 0).toNat : Int) = b0 := ⟨_, rfl⟩
  obtain ⟨b1, hb1⟩ : ∃ b1 : Int, IntKind.u8.wrap (b0 + y) = b1 := ⟨_, rfl⟩
  have HB01 : Hid (b1 = ((t.getD ix 0 + UInt8.ofNat y).toNat : Int)) := Lib.hid (by rw [add_u8, hb0, hb1])
  have HB0 := Lib.hid hb0
  clear hzt ht1 hzt1 ht1l hb0
  go_enter Tryz.func5, Tryz.ntmps5
  go_wp2_with fail
  refine (known_any w HT.out).mono ?_
  rintro e w1 ⟨rfl, hb1⟩
  have HB1 := Lib.hid hb1
  clear hb1
  go_wp2_with fail
  refine (HMK.out w1 (HN.out.below HB1.out)).mono ?_
  rintro e w2 ⟨ev1, rfl, hR1, hb2⟩
  obtain ⟨vp1, u1, x1, e1, hp1, hu1, hx1⟩ := id hR1
  obtain ⟨cp1, hcp1, -⟩ := id hp1
  obtain ⟨avp1, lvp1, cvp1, rfl⟩ := own_slice hcp1
  obtain ⟨au1, lu1, cu1, rfl⟩ := own_slice hu1
  obtain ⟨ax1, lx1, cx1, rfl⟩ := own_slice hx1
  rw [HZN.out, HFL.out] at e1
  subst e1
  clear hp1 hu1 hx1 hcp1
  have HB2 := Lib.hid (below_call HB1.out hb2)
  clear hb2
  have HR2 := Lib.hid hR1
  clear hR1
  go_wp2_with fail
  have hb4 : Below w2.heap.size w2 ((w2.alloc (.cells #[.int .i64 k, .int .i64 S.a, .int .i64 S.b, .int .i64 S.id, .slice avp1 lvp1 cvp1, .string zn, .int .i64 S.node.cpu, .int .i64 S.node.mem, .slice au1 lu1 cu1, .slice ax1 lx1 cx1, .bool fl] 33)).alloc (.cells #[.int .i64 k, .int .i64 S.a, .int .i64 S.b, .int .i64 S.id, .slice avp1 lvp1 cvp1, .string zn, .int .i64 S.node.cpu, .int .i64 S.node.mem, .slice au1 lu1 cu1, .slice ax1 lx1 cx1, .bool fl] 34)) := below_alloc' (below_alloc' (Below.refl _ _) _) _
  generalize World.alloc (World.alloc w2 _) _ = w4 at hb4 ⊢
  have HB4 := Lib.hid (below_call HB2.out hb4)
  have HR4 := Lib.hid (HR2.out.below hb4)
  clear hb4
  refine (text_any k HK1.out HK2.out S _ _ w4 (HT.out.below HB4.out) HR4.out HQB.out.1).mono ?_
  rintro e w5 ⟨rfl, hb5⟩
  rw [HTX.out, HZT.out]
  have HB5 := Lib.hid (below_call HB4.out hb5)
  clear hb5
  have hcv : (convert 9 38 (.string zt)).run Tryz.prog w5 = .ok (.slice (some ⟨w5.heap.size, 0, none⟩) zt.size (grownCap w5 zt.size 0 5)) (Lib.bytesWorld w5 5 zt) :=
    Lib.run_convert_string_bytes w5 _ _ _ zt Tryz.underlying9 Tryz.underlying38 Tryz.underlying5
  obtain ⟨cp, hcp⟩ : ∃ cp, grownCap w5 zt.size 0 5 = cp := ⟨_, rfl⟩
  obtain ⟨w6, hw6⟩ : ∃ w6, Lib.bytesWorld w5 5 zt = w6 := ⟨_, rfl⟩
  have hby : BytesAt 5 w6 w5.heap.size t := by rw [← hw6, ← HZT.out]; exact bytes_new _ _ _
  have hb6 : Below w5.heap.size w5 w6 := by rw [← hw6]; exact bytes_below _ _ _
  rw [hcp, hw6, hztl] at hcv
  have htnz : ¬ (tl : Int) = 0 := by omega
  have c0 := hby.cell (i := ix) (by rw [HTL.out]; exact hixl)
  rw [HB0.out] at c0
  have fr := hby.free (i := ix) (by rw [HTL.out]; exact hixl)
  have HBY := Lib.hid hby
  have HB6 := Lib.hid (below_call HB5.out hb6)
  clear hby hb6 hw6 hcp
  go_wp2_with fail
  refine (within15_any at_ tl (by omega) (by omega) w6).mono ?_
  rintro e w7 ⟨rfl, hw7⟩
  subst hw7
  rw [hix]
  have hixi : (ix : Int) < tl := by omega
  have hcb : ∀ w7, BytesAt 5 w7 w5.heap.size t1 → (convert 38 9 (.slice (some ⟨w5.heap.size, 0, none⟩) tl cp)).run Tryz.prog w7 = .ok (.string zt1) w7 := fun w7 h => by
    rw [← HZT1.out]
    exact h.conv Tryz.underlying38 Tryz.underlying5 Tryz.underlying9 (by rw [← HT1.out, List.length_set, HTL.out]) cp
  have HCB := Lib.hid hcb
  clear hcb
  have hcv2 : (convert 38 9 (.slice (some ⟨w5.heap.size, 0, none⟩) tl cp)).run Tryz.prog (w6.setCell ⟨w5.heap.size, ix, none⟩ (.int .u8 b1)) = .ok (.string zt1) (w6.setCell ⟨w5.heap.size, ix, none⟩ (.int .u8 b1)) := by
    refine HCB.out _ ?_
    rw [← HT1.out, HB01.out]
    exact HBY.out.set (by rw [HTL.out]; exact hixl) _
  have hby7 : BytesAt 5 (w6.setCell ⟨w5.heap.size, ix, none⟩ (.int .u8 b1)) w5.heap.size t1 := by
    rw [← HT1.out, HB01.out]
    exact HBY.out.set (by rw [HTL.out]; exact hixl) _
  have HBY7 := Lib.hid hby7
  have HB7 := Lib.hid (HB6.out.setCell (p := ⟨w5.heap.size, ix, none⟩) HB5.out.size (.int .u8 b1))
  clear hby7
  go_wp2_with fail
  generalize World.setCell w6 _ _ = w7 at HBY7 HB7 hcv2 ⊢
  clear hcv2 HBY c0 fr
  have hea := event_any t1 (by have := HT1L.out; omega) w7 (HT.out.below HB7.out)
  rw [HZT1.out] at hea
  refine hea.mono ?_
  clear hea
  rintro e w8 ⟨v8, rfl, hgv, hbv, hb8⟩
  have HB8 := Lib.hid (below_call HB7.out hb8)
  have HBY8 := Lib.hid (HBY7.out.below hb8)
  by_cases hok : evOk t1 = true
  · have g2 := (text_back t1 hok).1
    have g3 := (text_back t1 hok).2.1
    have g4 := (text_back t1 hok).2.2
    have g5 := ok_B hok (by have := HT1L.out; omega)
    have hR := hgv hok
    rw [hok, if_pos rfl]
    obtain ⟨kd1, hkd⟩ : ∃ kd1, kindS t1 = kd1 := ⟨_, rfl⟩
    obtain ⟨S1, hS⟩ : ∃ S1, evS t1 = S1 := ⟨_, rfl⟩
    rw [hkd, hS] at hR g2 g5
    rw [hkd] at g3 g4
    obtain ⟨vp, u, x, rfl, hp9, hu9, hx9⟩ := id hR
    obtain ⟨cp9, hcp9, -⟩ := id hp9
    obtain ⟨avp, lvp, cvp, rfl⟩ := own_slice hcp9
    obtain ⟨au, lu, cu, rfl⟩ := own_slice hu9
    obtain ⟨ax, lx, cx, rfl⟩ := own_slice hx9
    obtain ⟨zn1, hzn1⟩ : ∃ z, str S1.node.name = z := ⟨_, rfl⟩
    obtain ⟨fl1, hfl1⟩ : ∃ z, S1.node.closed = z := ⟨_, rfl⟩
    rw [hzn1, hfl1] at hR
    rw [hzn1, hfl1]
    have G2 := Lib.hid g2
    have G3 := Lib.hid g3
    have G4 := Lib.hid g4
    have G5 := Lib.hid g5
    have hb9 : Below w8.heap.size w8 (w8.alloc (.cells #[.int .i64 kd1, .int .i64 S1.a, .int .i64 S1.b, .int .i64 S1.id, .slice avp lvp cvp, .string zn1, .int .i64 S1.node.cpu, .int .i64 S1.node.mem, .slice au lu cu, .slice ax lx cx, .bool fl1] 33)) := below_alloc' (Below.refl _ _) _
    have hev : (w8.alloc (.cells #[.int .i64 kd1, .int .i64 S1.a, .int .i64 S1.b, .int .i64 S1.id, .slice avp lvp cvp, .string zn1, .int .i64 S1.node.cpu, .int .i64 S1.node.mem, .slice au lu cu, .slice ax lx cx, .bool fl1] 33)).heap[w8.heap.size]? = some (.cells #[.int .i64 kd1, .int .i64 S1.a, .int .i64 S1.b, .int .i64 S1.id, .slice avp lvp cvp, .string zn1, .int .i64 S1.node.cpu, .int .i64 S1.node.mem, .slice au lu cu, .slice ax lx cx, .bool fl1] 33 (0, 0)) := alloc_at _ _
    have hR9 : EvR w7.heap.size (w8.alloc (.cells #[.int .i64 kd1, .int .i64 S1.a, .int .i64 S1.b, .int .i64 S1.id, .slice avp lvp cvp, .string zn1, .int .i64 S1.node.cpu, .int .i64 S1.node.mem, .slice au lu cu, .slice ax lx cx, .bool fl1] 33)) (.agg #[.int .i64 kd1, .int .i64 S1.a, .int .i64 S1.b, .int .i64 S1.id, .slice avp lvp cvp, .string zn1, .int .i64 S1.node.cpu, .int .i64 S1.node.mem, .slice au lu cu, .slice ax lx cx, .bool fl1]) kd1 S1 := hR.below hb9
    have hby9 := HBY8.out.below hb9
    have hb9' := below_call HB8.out hb9
    clear hgv hbv hb8 hR hp9 hu9 hx9 hcp9 hzn1 hfl1 g2 g3 g4 g5 hkd hS hb9
    go_upto_region 9 with fail
    generalize World.alloc w8 _ = w9 at hev hR9 hby9 hb9' ⊢
    have hs : ∀ w6, Below w9.drew.heap.size w9.drew w6 → w6.cell? ⟨w8.heap.size, 0, none⟩ = some (.int .i64 kd1) ∧ w6.cell? ⟨w8.heap.size, 1, none⟩ = some (.int .i64 S1.a) ∧ w6.cell? ⟨w8.heap.size, 2, none⟩ = some (.int .i64 S1.b) ∧ w6.cell? ⟨w8.heap.size, 3, none⟩ = some (.int .i64 S1.id) ∧ w6.cell? ⟨w8.heap.size, 4, none⟩ = some (.slice avp lvp cvp) ∧ w6.cell? ⟨w8.heap.size, 5, none⟩ = some (.string zn1) ∧ w6.cell? ⟨w8.heap.size, 6, none⟩ = some (.int .i64 S1.node.cpu) ∧ w6.cell? ⟨w8.heap.size, 7, none⟩ = some (.int .i64 S1.node.mem) ∧ w6.cell? ⟨w8.heap.size, 8, none⟩ = some (.slice au lu cu) ∧ w6.cell? ⟨w8.heap.size, 9, none⟩ = some (.slice ax lx cx) ∧ w6.cell? ⟨w8.heap.size, 10, none⟩ = some (.bool fl1) := fun w6 h => by
      have hq := block_below (w := w9.drew) hev h
      exact ⟨cell_of_block hq 0 _ rfl, cell_of_block hq 1 _ rfl, cell_of_block hq 2 _ rfl, cell_of_block hq 3 _ rfl, cell_of_block hq 4 _ rfl, cell_of_block hq 5 _ rfl, cell_of_block hq 6 _ rfl, cell_of_block hq 7 _ rfl, cell_of_block hq 8 _ rfl, cell_of_block hq 9 _ rfl, cell_of_block hq 10 _ rfl⟩
    have HS := Lib.hid hs
    have HB9 := Lib.hid hb9'
    have HR9 := Lib.hid (hR9.below (Below.refl w9.heap.size w9).drew)
    have HBY9 := Lib.hid (hby9.below (Below.refl w9.heap.size w9).drew)
    clear hs hev hR9 hby9 hb9'
    refine' Par.wp_region_pars (fun w w' => Below w.heap.size w w') 18 (by kernel_rfl) (by kernel_rfl) (by kernel_rfl) (by kernel_rfl) (by kernel_rfl) (by kernel_rfl)
      (fun w => Below.refl _ w) (fun h k => below_call h k) (fun vals => ?_)
    rotate_left
    simp only [List.take_succ_cons, List.take_zero, List.drop_succ_cons, List.drop_zero]
    (apply Par.par_x rfl; (focus (intro w6 hR hD K hK; replace hK := Lib.hid hK; skip; clear hR hD; go_simp; exact hK.out _ (Below.refl _ _))); simp only [Act.put, List.setIfInBounds_toArray, List.set_cons_zero, List.set_cons_succ, Nat.reduceAdd, List.cons_append, List.nil_append])
    (apply Par.par_x rfl; (focus (intro w6 hR hD K hK; replace hK := Lib.hid hK; skip; clear hR hD; go_simp; exact hK.out _ (Below.refl _ _))); simp only [Act.put, List.setIfInBounds_toArray, List.set_cons_zero, List.set_cons_succ, Nat.reduceAdd, List.cons_append, List.nil_append])
    (apply Par.par_x rfl; (focus (intro w6 hR hD K hK; replace hK := Lib.hid hK; skip; clear hR hD; go_simp; exact hK.out _ (Below.refl _ _))); simp only [Act.put, List.setIfInBounds_toArray, List.set_cons_zero, List.set_cons_succ, Nat.reduceAdd, List.cons_append, List.nil_append])
    (apply Par.par_g (e := undef); (focus (intro w6 hR hD K hK; replace hK := Lib.hid hK; clear hR hD; go_simp; exact hK.out _ (Below.refl _ _))); simp only [Act.put, List.setIfInBounds_toArray, List.set_cons_zero, List.set_cons_succ, Nat.reduceAdd, List.cons_append, List.nil_append])
    (apply Par.par_g (e := undef); (focus (intro w6 hR hD K hK; replace hK := Lib.hid hK; clear hR hD; go_simp; exact hK.out _ (Below.refl _ _))); simp only [Act.put, List.setIfInBounds_toArray, List.set_cons_zero, List.set_cons_succ, Nat.reduceAdd, List.cons_append, List.nil_append])
    (apply Par.par_g (e := undef); (focus (intro w6 hR hD K hK; replace hK := Lib.hid hK; clear hR hD; go_simp; exact hK.out _ (Below.refl _ _))); simp only [Act.put, List.setIfInBounds_toArray, List.set_cons_zero, List.set_cons_succ, Nat.reduceAdd, List.cons_append, List.nil_append])
    (apply Par.par_x rfl; (focus (intro w6 hR hD K hK; replace hK := Lib.hid hK; skip; clear hR hD; go_simp; exact hK.out _ (Below.refl _ _))); simp only [Act.put, List.setIfInBounds_toArray, List.set_cons_zero, List.set_cons_succ, Nat.reduceAdd, List.cons_append, List.nil_append])
    (apply Par.par_x rfl; (focus (intro w6 hR hD K hK; replace hK := Lib.hid hK; skip; clear hR hD; go_simp; exact hK.out _ (Below.refl _ _))); simp only [Act.put, List.setIfInBounds_toArray, List.set_cons_zero, List.set_cons_succ, Nat.reduceAdd, List.cons_append, List.nil_append])
    (apply Par.par_g; (focus (intro w6 hR hD K hK; replace hK := Lib.hid hK; skip; clear hR hD; go_simp; exact hK.out _ (Below.refl _ _))); simp only [Act.put, List.setIfInBounds_toArray, List.set_cons_zero, List.set_cons_succ, Nat.reduceAdd, List.cons_append, List.nil_append])
    (apply Par.par_g; (focus (intro w6 hR hD K hK; replace hK := Lib.hid hK; skip; clear hR hD; go_simp; exact hK.out _ (Below.refl _ _))); simp only [Act.put, List.setIfInBounds_toArray, List.set_cons_zero, List.set_cons_succ, Nat.reduceAdd, List.cons_append, List.nil_append])
    (apply Par.par_g; (focus (intro w6 hR hD K hK; replace hK := Lib.hid hK; skip; clear hR hD; go_simp; exact hK.out _ (Below.refl _ _))); simp only [Act.put, List.setIfInBounds_toArray, List.set_cons_zero, List.set_cons_succ, Nat.reduceAdd, List.cons_append, List.nil_append])
    (apply Par.par_g; (focus (intro w6 hR hD K hK; replace hK := Lib.hid hK; obtain ⟨e0, e1, e2, e3, e4, e5, e6, e7, e8, e9, e10⟩ := HS.out w6 hR; clear hR hD; go_simp; exact hK.out _ (Below.refl _ _))); simp only [Act.put, List.setIfInBounds_toArray, List.set_cons_zero, List.set_cons_succ, Nat.reduceAdd, List.cons_append, List.nil_append])
    (apply Par.par_g; (focus (intro w6 hR hD K hK; replace hK := Lib.hid hK; have htb := HT.out.below (below_call HB9.out.drew hR); have hrr := HR9.out.below hR; replace htb := Lib.hid htb; replace hrr := Lib.hid hrr; clear hR hD; go_simp; have htx := text_any kd1 G3.out G4.out S1 w7.heap.size _ w6 htb.out hrr.out G5.out; rw [G2.out, HZT1.out] at htx; refine htx.mono ?_; clear htx htb hrr; rintro r w7 ⟨rfl, hb⟩; exact hK.out _ hb)); simp only [Act.put, List.setIfInBounds_toArray, List.set_cons_zero, List.set_cons_succ, Nat.reduceAdd, List.cons_append, List.nil_append])
    (apply Par.par_g; (focus (intro w6 hR hD K hK; replace hK := Lib.hid hK; skip; clear hR hD; go_simp; exact hK.out _ (Below.refl _ _))); simp only [Act.put, List.setIfInBounds_toArray, List.set_cons_zero, List.set_cons_succ, Nat.reduceAdd, List.cons_append, List.nil_append])
    (apply Par.par_g; (focus (intro w6 hR hD K hK; replace hK := Lib.hid hK; have hcv2 := HCB.out w6 (HBY9.out.below hR); clear hR hD; go_simp; exact hK.out _ (Below.refl _ _))); simp only [Act.put, List.setIfInBounds_toArray, List.set_cons_zero, List.set_cons_succ, Nat.reduceAdd, List.cons_append, List.nil_append])
    (apply Par.par_g; (focus (intro w6 hR hD K hK; replace hK := Lib.hid hK; skip; clear hR hD; go_simp; exact hK.out _ (Below.refl _ _))); simp only [Act.put, List.setIfInBounds_toArray, List.set_cons_zero, List.set_cons_succ, Nat.reduceAdd, List.cons_append, List.nil_append])
    (apply Par.par_g; (focus (intro w6 hR hD K hK; replace hK := Lib.hid hK; skip; clear hR hD; go_simp; exact hK.out _ (Below.refl _ _))); simp only [Act.put, List.setIfInBounds_toArray, List.set_cons_zero, List.set_cons_succ, Nat.reduceAdd, List.cons_append, List.nil_append])
    (apply Par.par_x rfl; (focus (intro w6 hR hD K hK; replace hK := Lib.hid hK; skip; clear hR hD; go_simp; exact hK.out _ (Below.refl _ _))); simp only [Act.put, List.setIfInBounds_toArray, List.set_cons_zero, List.set_cons_succ, Nat.reduceAdd, List.cons_append, List.nil_append])
    refine Par.par_end fun w6 hR hp => ?_
    clear hp
    have HB6' := Lib.hid (below_call HB9.out.drew hR)
    clear hR HS
    go_wp2
    go_ret
    exact ⟨rfl, HB6'.out⟩
  · have hf : evOk t1 = false := by simpa using hok
    have hv := hbv hf
    rw [hf]
    subst hv
    unfold zeroEv
    have hb9 : Below w8.heap.size w8 (w8.alloc (.cells #[.int .i64 0, .int .i64 0, .int .i64 0, .int .i64 0, .slice none 0 0, .string ⟨#[]⟩, .int .i64 0, .int .i64 0, .slice none 0 0, .slice none 0 0, .bool false] 33)) := below_alloc' (Below.refl _ _) _
    have hev : (w8.alloc (.cells #[.int .i64 0, .int .i64 0, .int .i64 0, .int .i64 0, .slice none 0 0, .string ⟨#[]⟩, .int .i64 0, .int .i64 0, .slice none 0 0, .slice none 0 0, .bool false] 33)).heap[w8.heap.size]? = some (.cells #[.int .i64 0, .int .i64 0, .int .i64 0, .int .i64 0, .slice none 0 0, .string ⟨#[]⟩, .int .i64 0, .int .i64 0, .slice none 0 0, .slice none 0 0, .bool false] 33 (0, 0)) := alloc_at _ _
    have hb9' := below_call HB8.out hb9
    clear hgv hbv hb8 hb9 hf hok
    go_upto_region 9 with fail
    generalize World.alloc w8 _ = w9 at hev hb9' ⊢
    have hs : ∀ w6, Below w9.drew.heap.size w9.drew w6 → w6.cell? ⟨w8.heap.size, 0, none⟩ = some (.int .i64 0) ∧ w6.cell? ⟨w8.heap.size, 1, none⟩ = some (.int .i64 0) ∧ w6.cell? ⟨w8.heap.size, 2, none⟩ = some (.int .i64 0) ∧ w6.cell? ⟨w8.heap.size, 3, none⟩ = some (.int .i64 0) ∧ w6.cell? ⟨w8.heap.size, 4, none⟩ = some (.slice none 0 0) ∧ w6.cell? ⟨w8.heap.size, 5, none⟩ = some (.string ⟨#[]⟩) ∧ w6.cell? ⟨w8.heap.size, 6, none⟩ = some (.int .i64 0) ∧ w6.cell? ⟨w8.heap.size, 7, none⟩ = some (.int .i64 0) ∧ w6.cell? ⟨w8.heap.size, 8, none⟩ = some (.slice none 0 0) ∧ w6.cell? ⟨w8.heap.size, 9, none⟩ = some (.slice none 0 0) ∧ w6.cell? ⟨w8.heap.size, 10, none⟩ = some (.bool false) := fun w6 h => by
      have hq := block_below (w := w9.drew) hev h
      exact ⟨cell_of_block hq 0 _ rfl, cell_of_block hq 1 _ rfl, cell_of_block hq 2 _ rfl, cell_of_block hq 3 _ rfl, cell_of_block hq 4 _ rfl, cell_of_block hq 5 _ rfl, cell_of_block hq 6 _ rfl, cell_of_block hq 7 _ rfl, cell_of_block hq 8 _ rfl, cell_of_block hq 9 _ rfl, cell_of_block hq 10 _ rfl⟩
    have HS := Lib.hid hs
    have HB9 := Lib.hid hb9'
    clear hs hev hb9'
    refine' Par.wp_region_pars (fun w w' => Below w.heap.size w w') 18 (by kernel_rfl) (by kernel_rfl) (by kernel_rfl) (by kernel_rfl) (by kernel_rfl) (by kernel_rfl)
      (fun w => Below.refl _ w) (fun h k => below_call h k) (fun vals => ?_)
    rotate_left
    simp only [List.take_succ_cons, List.take_zero, List.drop_succ_cons, List.drop_zero]
    (apply Par.par_x rfl; (focus (intro w6 hR hD K hK; replace hK := Lib.hid hK; skip; clear hR hD; go_simp; exact hK.out _ (Below.refl _ _))); simp only [Act.put, List.setIfInBounds_toArray, List.set_cons_zero, List.set_cons_succ, Nat.reduceAdd, List.cons_append, List.nil_append])
    (apply Par.par_x rfl; (focus (intro w6 hR hD K hK; replace hK := Lib.hid hK; skip; clear hR hD; go_simp; exact hK.out _ (Below.refl _ _))); simp only [Act.put, List.setIfInBounds_toArray, List.set_cons_zero, List.set_cons_succ, Nat.reduceAdd, List.cons_append, List.nil_append])
    (apply Par.par_x rfl; (focus (intro w6 hR hD K hK; replace hK := Lib.hid hK; skip; clear hR hD; go_simp; exact hK.out _ (Below.refl _ _))); simp only [Act.put, List.setIfInBounds_toArray, List.set_cons_zero, List.set_cons_succ, Nat.reduceAdd, List.cons_append, List.nil_append])
    (apply Par.par_g; (focus (intro w6 hR hD K hK; replace hK := Lib.hid hK; obtain ⟨e0, e1, e2, e3, e4, e5, e6, e7, e8, e9, e10⟩ := HS.out w6 hR; clear hR hD; go_simp; exact hK.out _ (Below.refl _ _))); simp only [Act.put, List.setIfInBounds_toArray, List.set_cons_zero, List.set_cons_succ, Nat.reduceAdd, List.cons_append, List.nil_append])
    (apply Par.par_g; (focus (intro w6 hR hD K hK; replace hK := Lib.hid hK; skip; clear hR hD; go_simp; exact hK.out _ (Below.refl _ _))); simp only [Act.put, List.setIfInBounds_toArray, List.set_cons_zero, List.set_cons_succ, Nat.reduceAdd, List.cons_append, List.nil_append])
    (apply Par.par_g; (focus (intro w6 hR hD K hK; replace hK := Lib.hid hK; clear hR hD; go_simp; refine (same_zero w6).mono ?_; rintro r w7 ⟨rfl, hb⟩; exact hK.out _ hb)); simp only [Act.put, List.setIfInBounds_toArray, List.set_cons_zero, List.set_cons_succ, Nat.reduceAdd, List.cons_append, List.nil_append])
    (apply Par.par_x rfl; (focus (intro w6 hR hD K hK; replace hK := Lib.hid hK; skip; clear hR hD; go_simp; exact hK.out _ (Below.refl _ _))); simp only [Act.put, List.setIfInBounds_toArray, List.set_cons_zero, List.set_cons_succ, Nat.reduceAdd, List.cons_append, List.nil_append])
    (apply Par.par_x rfl; (focus (intro w6 hR hD K hK; replace hK := Lib.hid hK; skip; clear hR hD; go_simp; exact hK.out _ (Below.refl _ _))); simp only [Act.put, List.setIfInBounds_toArray, List.set_cons_zero, List.set_cons_succ, Nat.reduceAdd, List.cons_append, List.nil_append])
    (apply Par.par_g (e := undef); (focus (intro w6 hR hD K hK; replace hK := Lib.hid hK; clear hR hD; go_simp; exact hK.out _ (Below.refl _ _))); simp only [Act.put, List.setIfInBounds_toArray, List.set_cons_zero, List.set_cons_succ, Nat.reduceAdd, List.cons_append, List.nil_append])
    (apply Par.par_g (e := undef); (focus (intro w6 hR hD K hK; replace hK := Lib.hid hK; clear hR hD; go_simp; exact hK.out _ (Below.refl _ _))); simp only [Act.put, List.setIfInBounds_toArray, List.set_cons_zero, List.set_cons_succ, Nat.reduceAdd, List.cons_append, List.nil_append])
    (apply Par.par_g (e := undef); (focus (intro w6 hR hD K hK; replace hK := Lib.hid hK; clear hR hD; go_simp; exact hK.out _ (Below.refl _ _))); simp only [Act.put, List.setIfInBounds_toArray, List.set_cons_zero, List.set_cons_succ, Nat.reduceAdd, List.cons_append, List.nil_append])
    (apply Par.par_g (e := undef); (focus (intro w6 hR hD K hK; replace hK := Lib.hid hK; clear hR hD; go_simp; exact hK.out _ (Below.refl _ _))); simp only [Act.put, List.setIfInBounds_toArray, List.set_cons_zero, List.set_cons_succ, Nat.reduceAdd, List.cons_append, List.nil_append])
    (apply Par.par_g (e := undef); (focus (intro w6 hR hD K hK; replace hK := Lib.hid hK; clear hR hD; go_simp; exact hK.out _ (Below.refl _ _))); simp only [Act.put, List.setIfInBounds_toArray, List.set_cons_zero, List.set_cons_succ, Nat.reduceAdd, List.cons_append, List.nil_append])
    (apply Par.par_g (e := undef); (focus (intro w6 hR hD K hK; replace hK := Lib.hid hK; clear hR hD; go_simp; exact hK.out _ (Below.refl _ _))); simp only [Act.put, List.setIfInBounds_toArray, List.set_cons_zero, List.set_cons_succ, Nat.reduceAdd, List.cons_append, List.nil_append])
    (apply Par.par_g (e := undef); (focus (intro w6 hR hD K hK; replace hK := Lib.hid hK; clear hR hD; go_simp; exact hK.out _ (Below.refl _ _))); simp only [Act.put, List.setIfInBounds_toArray, List.set_cons_zero, List.set_cons_succ, Nat.reduceAdd, List.cons_append, List.nil_append])
    (apply Par.par_g (e := undef); (focus (intro w6 hR hD K hK; replace hK := Lib.hid hK; clear hR hD; go_simp; exact hK.out _ (Below.refl _ _))); simp only [Act.put, List.setIfInBounds_toArray, List.set_cons_zero, List.set_cons_succ, Nat.reduceAdd, List.cons_append, List.nil_append])
    (apply Par.par_g (e := undef); (focus (intro w6 hR hD K hK; replace hK := Lib.hid hK; clear hR hD; go_simp; exact hK.out _ (Below.refl _ _))); simp only [Act.put, List.setIfInBounds_toArray, List.set_cons_zero, List.set_cons_succ, Nat.reduceAdd, List.cons_append, List.nil_append])
    (apply Par.par_x rfl; (focus (intro w6 hR hD K hK; replace hK := Lib.hid hK; skip; clear hR hD; go_simp; exact hK.out _ (Below.refl _ _))); simp only [Act.put, List.setIfInBounds_toArray, List.set_cons_zero, List.set_cons_succ, Nat.reduceAdd, List.cons_append, List.nil_append])
    refine Par.par_end fun w6 hR hp => ?_
    clear hp
    have HB6' := Lib.hid (below_call HB9.out.drew hR)
    clear hR HS
    go_wp2
    go_ret
    exact ⟨rfl, HB6'.out⟩
theorem playOnly_row (a0 a1 a2 : Int) (a3 : Option Addr) (len3 cap3 : Nat) (z3 : List Int) (a4 a5 a6 : Int) (w : World) (w0 : (Lit.int .i64 a0).wf = true) (w1 : (Lit.int .i64 a1).wf = true) (w2 : (Lit.int .i64 a2).wf = true) (w3 : IsRow .i64 w a3 len3 cap3 z3) (y3 : len3 * 8 ≤ 140737488351232) (w4 : (Lit.int .i64 a4).wf = true) (w5 : (Lit.int .i64 a5).wf = true) (w6 : (Lit.int .u8 a6).wf = true) (ht : Tabs w) :
    Calls Tryz.prog 5 #[.int .i64 a0, .int .i64 a1, .int .i64 a2, .slice a3 len3 cap3, .int .i64 a4, .int .i64 a5, .int .u8 a6] w fun e w' => e = .returned (.bool true) ∧ Below w.heap.size w w' := by
  have h6 : IntKind.u8.min ≤ a6 ∧ a6 ≤ IntKind.u8.max := by simpa [Lit.wf] using w6
  rw [show IntKind.u8.min = 0 by decide, show IntKind.u8.max = 255 by decide] at h6
  obtain ⟨y, rfl⟩ : ∃ y : Nat, a6 = y := ⟨a6.toNat, by omega⟩
  exact playOnly_any a0 a1 a2 _ _ a4 a5 y (by omega) w (nums_row w3 y3) ht
end Go.Proofs.YtoekofanmgdbmaaGreatDoor
