/- PostOwn: the law's walk. -/
import Derived.Test.YtpkkjonajimefaaDoorLW
set_option linter.unusedVariables false
set_option linter.unusedSimpArgs false
namespace Go.Proofs.YtpkkjonajimefaaDoor
open Go.RowKit

theorem own_size {w : World} {base n size : Nat} {e : TypeId} {v : Value} {xs : List Value} (h : w.ownsRow base e size v n xs) : ∀ g, v.ownBlock = some g → ∃ cs, w.heap[g]? = some (.cells cs e (0, 0)) ∧ n * size ≤ cs.size := by
  intro g hg
  obtain ⟨_, h2⟩ := h
  rcases h2 with ⟨rfl, _⟩ | ⟨g', cap, cur, rfl, _, hh, hn, _, hs, _⟩
  · simp [Value.ownBlock] at hg
  · have : g' = g := by simpa [Value.ownBlock] using hg
    subst this
    exact ⟨cur, hh, by rw [hs]; exact Nat.mul_le_mul_right _ hn⟩
theorem one_row {w : World} {g : Nat} {c1 : List Value} {m1 : MsgM} (h : w.heap[g]? = some (.cells c1.toArray 26 (0, 0))) (h1 : c1.length = 7) (a1 : MsgAt 0 w (.agg c1.toArray) m1) (f1 : m1.few) :
    MsgRow 0 w (.slice (some ⟨g, 0, none⟩) 1 1) [m1] := by
  refine ⟨fun i => c1, ?_, fun i hi => ?_⟩
  · have := own_lit (base := 0) (n := 1) (size := 7) h (by simp [h1]) (by decide) (Nat.zero_le _)
    simpa [flat, List.range_succ] using this
  · match i, hi with
    | 0, _ => exact ⟨h1, a1, f1⟩

set_option maxHeartbeats 8000000 in
set_option maxRecDepth 100000 in
theorem postOwn_any (vp : Value) (ps : List Int) (n : Int) (w : World) (hp : Nums w vp ps) (ht : Tabs w) : Calls Tryd.prog 8 #[vp, .int .i64 n] w fun e w' => e = .returned (.bool true) ∧ Below w.heap.size w w' := by
  have HT := Lib.hid ht
  have HNP := Lib.hid hp
  obtain ⟨pa, pc, rfl, _, _⟩ := hp
  clear ht
  go_enter Tryd.func8, Tryd.ntmps8
  go_wp2_with fail
  refine (known_any _ HT.out).mono ?_
  rintro r w1 ⟨rfl, hb1⟩
  have HB1 := Lib.hid hb1
  clear hb1 HT
  go_wp2_with fail
  refine (new_full _).mono ?_
  rintro r w2 ⟨rfl, hr2, hp2, hb2⟩
  have HR2 := Lib.hid hr2
  have HP2 := Lib.hid hp2
  have HB2 := Lib.hid hb2
  clear hr2 hp2 hb2
  go_wp2_with fail
  refine (new_full _).mono ?_
  rintro r w3 ⟨rfl, hr3, hp3, hb3⟩
  have HRQ := Lib.hid hr3
  have HPQ := Lib.hid hp3
  have HR3 := Lib.hid (block_below HR2.out hb3)
  have HP3 := Lib.hid (block_below HP2.out hb3)
  have HB3 := Lib.hid (below_call HB1.out (below_call HB2.out hb3))
  have hl1 : w.heap.size ≤ w1.heap.size := HB1.out.size
  have hl2 : w1.heap.size + 1 < w2.heap.size := (Array.getElem?_eq_some_iff.1 HP2.out).1
  have HL1 := Lib.hid hl1
  have HL2 := Lib.hid hl2
  clear hr3 hp3 hb3 HR2 HP2 HB1 HB2 hl1 hl2
  obtain ⟨r, hr⟩ : ∃ r, r = w1.heap.size := ⟨_, rfl⟩
  obtain ⟨rq, hrq⟩ : ∃ r, r = w2.heap.size := ⟨_, rfl⟩
  rw [← hr] at HR3 HP3 HL1 HL2 ⊢
  rw [← hrq] at HRQ HPQ HL2 ⊢
  clear hr hrq
  obtain ⟨M0, hM0⟩ : ∃ m, makeM n ps = m := ⟨_, rfl⟩
  have hmk := fun w' (h : Nums w' (.slice pa ps.length pc) ps) => make_any n _ ps w' h
  rw [hM0] at hmk
  have HMK := Lib.hid hmk
  have HF0 : Hid M0.few := Lib.hid (hM0 ▸ makeM_few _ _)
  clear hmk hM0
  go_wp2_with fail
  refine (HMK.out _ (HNP.out.below HB3.out)).mono ?_
  rintro e w4 ⟨v, rfl, hv, hb4⟩
  obtain ⟨xa, xb, xc, xd, rfl⟩ := msg_agg hv
  have HB4 := Lib.hid hb4
  clear hv hb4
  go_wp2_with fail
  refine (HMK.out _ (HNP.out.below (below_call HB3.out HB4.out))).mono ?_
  rintro e w5 ⟨v, rfl, hv, hb5⟩
  obtain ⟨ya, yb, yc, yd, rfl⟩ := msg_agg hv
  have HB5 := Lib.hid (below_call HB4.out hb5)
  clear hv hb5 HB4
  go_upto_region 7 with fail
  generalize hw6 : World.alloc (World.alloc w5 _) _ = w6
  have hb6 : Below w5.heap.size w5 w6 := by rw [← hw6]; exact below_alloc' (below_alloc' (Below.refl _ _) _) _
  have zm : w6.heap[w5.heap.size]? = some (.cells #[.int .i64 M0.kind, .int .i64 M0.src, .int .i64 M0.dst, .int .i64 M0.gang, .slice xa M0.pods.length xb, .slice xc M0.peers.length xd, .bool M0.yes] 26 (0, 0)) := by rw [← hw6, Below.heap_alloc _ _ _ (by simp)]; exact alloc_at _ _
  have zw : w6.heap[w5.heap.size + 1]? = some (.cells #[.int .i64 M0.kind, .int .i64 M0.src, .int .i64 M0.dst, .int .i64 M0.gang, .slice ya M0.pods.length yb, .slice yc M0.peers.length yd, .bool M0.yes] 26 (0, 0)) := by rw [← hw6]; exact alloc_second _ _ _
  clear hw6
  have hb36 := below_call HB5.out hb6
  have HB6 := Lib.hid (below_call HB3.out hb36)
  have HP6 := Lib.hid (block_below HP3.out hb36)
  have HR6 := Lib.hid (block_below HR3.out hb36)
  have HPQ6 := Lib.hid (block_below HPQ.out hb36)
  have HRQ6 := Lib.hid (block_below HRQ.out hb36)
  have hl3 : rq + 1 < w5.heap.size := Nat.lt_of_lt_of_le (Array.getElem?_eq_some_iff.1 HPQ.out).1 HB5.out.size
  obtain ⟨gm, hgm⟩ : ∃ g, g = w5.heap.size := ⟨_, rfl⟩
  rw [← hgm] at zm zw hl3 ⊢
  have HL3 := Lib.hid hl3
  have ZM := Lib.hid zm
  have ZW := Lib.hid zw
  have HL4 : Hid (gm + 1 < w6.heap.size) := Lib.hid (Array.getElem?_eq_some_iff.1 zw).1
  clear hb36 hb6 zm zw hl3 hgm HP3 HR3 HPQ HRQ HB5 HB3 HMK
  obtain ⟨PL, hPL⟩ : ∃ l, podsM ps = l := ⟨_, rfl⟩
  obtain ⟨XL, hXL⟩ : ∃ l, peersM n 4 = l := ⟨_, rfl⟩
  have hpl := podsM_few ps
  rw [hPL] at hpl
  have hxl := peersM_len n 4
  rw [hXL] at hxl
  have hxp := peersM_pos n
  rw [hXL] at hxp
  have hpods := fun w' h => pods_any w' (.slice pa ps.length pc) ps h
  rw [hPL] at hpods
  have hpeers := fun w' => peers_any n w'
  rw [hXL] at hpeers
  have HPODS := Lib.hid hpods
  have HPEERS := Lib.hid hpeers
  have HPL := Lib.hid hpl
  have HXP := Lib.hid hxp
  have HXL := Lib.hid hxl
  clear hPL hXL hpl hxl hxp hpods hpeers
  -- m's parts
  go_upto_region 8 with fail
  refine (HPODS.out _ (HNP.out.below HB6.out)).mono ?_
  rintro e w7 ⟨v, rfl, hv, hb7⟩
  have HV1 := Lib.hid hv
  obtain ⟨_, hrow, _⟩ := hv
  obtain ⟨a1, c1, rfl⟩ := own_slicen hrow
  have HB7 := Lib.hid hb7
  clear hrow hb7
  go_upto_region 8 with fail
  refine (HPEERS.out _).mono ?_
  rintro e w8 ⟨v, rfl, hv, hb8⟩
  have HX1 := Lib.hid (own_base hv HB7.out.size)
  obtain ⟨a2, c2, rfl⟩ := own_slicen hv
  have HV2 := Lib.hid (HV1.out.still (Still.of_below hb8))
  have HB8 := Lib.hid (below_call HB7.out hb8)
  have zm8 := block_below ZM.out HB8.out
  have n0 := cell_of_block zm8 0 _ rfl
  have n4 := cell_of_block zm8 4 _ rfl
  have n5 := cell_of_block zm8 5 _ rfl
  have fr := free_of_block zm8
  have ZM8 := Lib.hid zm8
  clear hv hb8 zm8 HV1 HB7 ZM
  go_upto_region 8 with fail
  obtain ⟨zm9, hbut⟩ := set3 w8 gm _ _ _ _ _ _ _ _ (.int .i64 1) (.slice a1 PL.length c1) (.slice a2 XL.length c2) ZM8.out
  generalize hw9 : World.setCell _ _ _ = w9 at zm9 hbut ⊢
  have hst : Still (fun e => e ≠ 26) w8 w9 := hbut.still ZM8.out (by simp)
  have hpar : Still Parts w8 w9 := still_sub hst fun e he => by rcases he with rfl | rfl | rfl <;> decide
  have HB9 := Lib.hid (Below.but (below_call HB6.out HB8.out) hbut (by have := HL1.out; have := HL2.out; have := HL3.out; omega) (Nat.le_trans HB6.out.size HB8.out.size))
  have ZM9 := Lib.hid zm9
  have ZW9 := Lib.hid ((hbut.block (gm + 1) (Nat.lt_of_lt_of_le HL4.out HB8.out.size) (by omega)).trans (block_below ZW.out HB8.out))
  have HP9 := Lib.hid (hst _ _ _ (by decide) (block_below HP6.out HB8.out))
  have HR9 := Lib.hid (hst _ _ _ (by decide) (block_below HR6.out HB8.out))
  have HPQ9 := Lib.hid (hst _ _ _ (by decide) (block_below HPQ6.out HB8.out))
  have HRQ9 := Lib.hid (hst _ _ _ (by decide) (block_below HRQ6.out HB8.out))
  have HV9 := Lib.hid (HV2.out.still hpar)
  have HX9 := Lib.hid (own_still HX1.out hpar (by unfold Parts; decide))
  have hgp : 0 < PL.length → ∃ g, a1 = some ⟨g, 0, none⟩ ∧ w6.heap.size ≤ g ∧ g < w9.heap.size := by
    intro h
    obtain ⟨cc, hrow, _⟩ := HV9.out
    obtain ⟨g, cap, e, h1, h2⟩ := (own_forms hrow).resolve_left (by rintro ⟨_, h, _⟩; omega)
    injection e with e1 e2 e3
    exact ⟨g, e1, h1, h2⟩
  have hgx : ∃ g, a2 = some ⟨g, 0, none⟩ ∧ w6.heap.size ≤ g ∧ g < w9.heap.size := by
    have h := HXP.out
    obtain ⟨g, cap, e, h1, h2⟩ := (own_forms HX9.out).resolve_left (by rintro ⟨_, h, _⟩; omega)
    injection e with e1 e2 e3
    exact ⟨g, e1, h1, h2⟩
  obtain ⟨gx, rfl, hgx1, hgx2⟩ := hgx
  have HGP := Lib.hid hgp
  have HGX1 := Lib.hid hgx1
  have HGX2 := Lib.hid hgx2
  clear hgp hgx1 hgx2
  have HS9 : Hid (w6.heap.size ≤ w9.heap.size) := Lib.hid (Nat.le_trans HB8.out.size hbut.size)
  clear hw9 n0 n4 n5 fr zm9 hbut hst hpar HV2 HX1 ZM8 ZW HP6 HR6 HPQ6 HRQ6 HB8
  -- want's parts
  go_upto_region 9 with fail
  refine (HPODS.out _ (HNP.out.below HB9.out)).mono ?_
  rintro e w10 ⟨v, rfl, hv, hb10⟩
  have HV1 := Lib.hid hv
  obtain ⟨_, hrow, _⟩ := hv
  obtain ⟨a3, c3, rfl⟩ := own_slicen hrow
  have HB10 := Lib.hid hb10
  clear hrow hb10
  go_upto_region 9 with fail
  refine (HPEERS.out _).mono ?_
  rintro e w11 ⟨v, rfl, hv, hb11⟩
  have HX1 := Lib.hid (own_base hv HB10.out.size)
  obtain ⟨a4, c4, rfl⟩ := own_slicen hv
  have HV2 := Lib.hid (HV1.out.still (Still.of_below hb11))
  have HB11 := Lib.hid (below_call HB10.out hb11)
  have zm8 := block_below ZW9.out HB11.out
  have n0 := cell_of_block zm8 0 _ rfl
  have n4 := cell_of_block zm8 4 _ rfl
  have n5 := cell_of_block zm8 5 _ rfl
  have fr := free_of_block zm8
  have ZW11 := Lib.hid zm8
  clear hv hb11 zm8 HV1 HB10 ZW9
  go_upto_region 9 with fail
  obtain ⟨zm9, hbut⟩ := set3 w11 (gm + 1) _ _ _ _ _ _ _ _ (.int .i64 1) (.slice a3 PL.length c3) (.slice a4 XL.length c4) ZW11.out
  generalize hw9 : World.setCell _ _ _ = w12 at zm9 hbut ⊢
  have hst : Still (fun e => e ≠ 26) w11 w12 := hbut.still ZW11.out (by simp)
  have hpar : Still Parts w11 w12 := still_sub hst fun e he => by rcases he with rfl | rfl | rfl <;> decide
  have HB12 := Lib.hid (Below.but (below_call HB9.out HB11.out) hbut (by have := HL1.out; have := HL2.out; have := HL3.out; omega) (Nat.le_trans HB9.out.size HB11.out.size))
  have ZW12 := Lib.hid zm9
  have ZM12 := Lib.hid ((hbut.block gm (Nat.lt_of_lt_of_le (Nat.lt_of_lt_of_le (Nat.lt_of_lt_of_le (Nat.lt_succ_self gm) (Nat.le_of_lt HL4.out)) HS9.out) HB11.out.size) (by omega)).trans (block_below ZM9.out HB11.out))
  have HP12 := Lib.hid (hst _ _ _ (by decide) (block_below HP9.out HB11.out))
  have HR12 := Lib.hid (hst _ _ _ (by decide) (block_below HR9.out HB11.out))
  have HPQ12 := Lib.hid (hst _ _ _ (by decide) (block_below HPQ9.out HB11.out))
  have HRQ12 := Lib.hid (hst _ _ _ (by decide) (block_below HRQ9.out HB11.out))
  have HV12 := Lib.hid ((HV9.out.still (Still.of_below HB11.out)).still hpar)
  have HX12 := Lib.hid (own_still (own_below HX9.out HB11.out) hpar (by unfold Parts; decide))
  have HY12 := Lib.hid (HV2.out.still hpar)
  have HZ12 := Lib.hid (own_still HX1.out hpar (by unfold Parts; decide))
  have HS12 : Hid (w9.heap.size ≤ w12.heap.size) := Lib.hid (Nat.le_trans HB11.out.size hbut.size)
  clear hw9 n0 n4 n5 fr zm9 hbut hst hpar HV2 HX1 ZW11 ZM9 HP9 HR9 HPQ9 HRQ9 HV9 HX9 HB11
  obtain ⟨M, hM⟩ : ∃ M : MsgM, M = ⟨1, M0.src, M0.dst, M0.gang, PL, XL, M0.yes⟩ := ⟨_, rfl⟩
  have hmv : MsgAt w6.heap.size w12 (.agg #[.int .i64 M.kind, .int .i64 M.src, .int .i64 M.dst, .int .i64 M.gang, .slice a1 M.pods.length c1, .slice (some ⟨gx, 0, none⟩) M.peers.length c2, .bool M.yes]) M := by subst hM; exact ⟨_, _, rfl, HV12.out, HX12.out⟩
  have hwv : MsgAt w9.heap.size w12 (.agg #[.int .i64 M.kind, .int .i64 M.src, .int .i64 M.dst, .int .i64 M.gang, .slice a3 M.pods.length c3, .slice a4 M.peers.length c4, .bool M.yes]) M := by subst hM; exact ⟨_, _, rfl, HY12.out, HZ12.out⟩
  have hzm : w12.heap[gm]? = some (.cells #[.int .i64 M.kind, .int .i64 M.src, .int .i64 M.dst, .int .i64 M.gang, .slice a1 M.pods.length c1, .slice (some ⟨gx, 0, none⟩) M.peers.length c2, .bool M.yes] 26 (0, 0)) := by subst hM; exact ZM12.out
  have hzw : w12.heap[gm + 1]? = some (.cells #[.int .i64 M.kind, .int .i64 M.src, .int .i64 M.dst, .int .i64 M.gang, .slice a3 M.pods.length c3, .slice a4 M.peers.length c4, .bool M.yes] 26 (0, 0)) := by subst hM; exact ZW12.out
  have hmf : M.few := by
    subst hM
    exact ⟨by have := HPL.out.1; show PL.length ≤ _; omega, by have := HXL.out; show XL.length ≤ _; omega, HPL.out.2⟩
  have hm8 : M.pods.length ≤ 8 := by subst hM; exact HPL.out.1
  have hmx : 1 ≤ M.peers.length := by subst hM; exact HXP.out
  have hgp : 0 < M.pods.length → ∃ g, a1 = some ⟨g, 0, none⟩ ∧ w6.heap.size ≤ g ∧ g < w9.heap.size := by subst hM; exact HGP.out
  have HMV := Lib.hid hmv
  have HWV := Lib.hid hwv
  have HZM := Lib.hid hzm
  have HZW := Lib.hid hzw
  have HMF := Lib.hid hmf
  have HM8 := Lib.hid hm8
  have HMX := Lib.hid hmx
  have HGP2 := Lib.hid hgp
  clear hmv hwv hzm hzw hmf hm8 hmx hgp HGP HPL HXP HXL HPODS HPEERS HV12 HX12 HY12 HZ12 ZM12 ZW12 HF0 hM HNP HB9
  -- sent
  have m0 := cell_of_block HZM.out 0 _ rfl
  have m1 := cell_of_block HZM.out 1 _ rfl
  have m2 := cell_of_block HZM.out 2 _ rfl
  have m3 := cell_of_block HZM.out 3 _ rfl
  have m4 := cell_of_block HZM.out 4 _ rfl
  have m5 := cell_of_block HZM.out 5 _ rfl
  have m6 := cell_of_block HZM.out 6 _ rfl
  go_upto_region 10 with fail
  generalize hw13 : World.alloc w12 _ = w13
  have hb13 : Below w12.heap.size w12 w13 := by rw [← hw13]; exact below_alloc' (Below.refl _ _) _
  have z13 : w13.heap[w12.heap.size]? = some (.cells (([.int .i64 M.kind, .int .i64 M.src, .int .i64 M.dst, .int .i64 M.gang, .slice a1 M.pods.length c1, .slice (some ⟨gx, 0, none⟩) M.peers.length c2, .bool M.yes] : List Value)).toArray 26 (0, 0)) := by rw [← hw13]; exact alloc_at _ _
  clear hw13 m0 m1 m2 m3 m4 m5 m6
  have hrow := one_row z13 rfl ((HMV.out.base (Nat.zero_le _)).still (Still.of_below hb13)) HMF.out
  refine (sendC_any w.heap.size w12.heap.size w13 hb13.size (r + 1) r [] (Nat.le_succ_of_le HL1.out) (block_below HP12.out hb13) ⟨HL1.out, .slice none 0 0, fun _ => undef, block_below HR12.out hb13, World.ownsRow_nil _ _ _ _, fun i hi => absurd hi (Nat.not_lt_zero _)⟩ (Nat.le_trans HB12.out.size hb13.size) _ [M] hrow.at_ (by simp)).mono ?_
  rintro e w14 ⟨rfl, hp14, hbag14, hb14, hs14, hr14⟩
  have hst1 : sent [] [M] = [M] := by rw [sent_eq _ _ (by simp)]; rfl
  rw [hst1] at hbag14
  have how : OwnW w.heap.size w12.heap.size (r + 1) r (rq + 1) rq gm (gm + 1) #[.int .i64 M.kind, .int .i64 M.src, .int .i64 M.dst, .int .i64 M.gang, .slice a1 M.pods.length c1, .slice (some ⟨gx, 0, none⟩) M.peers.length c2, .bool M.yes] #[.int .i64 M.kind, .int .i64 M.src, .int .i64 M.dst, .int .i64 M.gang, .slice a3 M.pods.length c3, .slice a4 M.peers.length c4, .bool M.yes] (.bool true) M w w14 :=
    ⟨Nat.le_trans hb13.size hb14.size, hs14 _ _ _ ⟨by decide, by decide⟩ (block_below HZM.out hb13), hs14 _ _ _ ⟨by decide, by decide⟩ (block_below HZW.out hb13), hp14, hbag14, hs14 _ _ _ ⟨by decide, by decide⟩ (block_below HPQ12.out hb13), hr14 rq _ _ (by have := HL2.out; omega) (by decide) (block_below HRQ12.out hb13), (below_call HB12.out hb13).trans hb14⟩
  have hwant := (HWV.out.still (Still.of_below hb13)).still (parts_rest hs14)
  have hmine := (HMV.out.still (Still.of_below hb13)).still (parts_rest hs14)
  have hx14 : ∃ cs, w14.heap[gx]? = some (.cells cs 3 (0, 0)) ∧ 1 ≤ cs.size := by
    obtain ⟨u, x, e, _, h3⟩ := hmine
    injection e with e
    simp only [Array.mk.injEq, List.cons.injEq] at e
    obtain ⟨_, _, _, _, _, rfl, _⟩ := e
    obtain ⟨cs, h4, h5⟩ := own_size h3 gx rfl
    exact ⟨cs, h4, by have := HMX.out; omega⟩
  have hpb14 : ∀ g, a1 = some ⟨g, 0, none⟩ → ∃ cs, w14.heap[g]? = some (.cells cs 53 (0, 0)) ∧ M.pods.length * 7 ≤ cs.size := by
    intro g hg
    obtain ⟨u, x, e, ⟨cc, h3, _⟩, _⟩ := hmine
    injection e with e
    simp only [Array.mk.injEq, List.cons.injEq] at e
    obtain ⟨_, _, _, _, rfl, _⟩ := e
    exact own_size h3 g (by rw [hg]; rfl)
  have HOW := Lib.hid how
  have HWANT := Lib.hid hwant
  have HX14 := Lib.hid hx14
  have HPB14 := Lib.hid hpb14
  clear z13 hb13 hrow hp14 hbag14 hb14 hs14 hr14 hst1 how hwant hmine hx14 hpb14 HMV HWV HZM HZW HP12 HR12 HPQ12 HRQ12
  go_wp2
  go_loopw [9] (fun i wr => ∃ k : Nat, i = .int .i64 k ∧ k ≤ M.pods.length ∧ OwnW w.heap.size w12.heap.size (r + 1) r (rq + 1) rq gm (gm + 1) #[.int .i64 M.kind, .int .i64 M.src, .int .i64 M.dst, .int .i64 M.gang, .slice a1 M.pods.length c1, .slice (some ⟨gx, 0, none⟩) M.peers.length c2, .bool M.yes] #[.int .i64 M.kind, .int .i64 M.src, .int .i64 M.dst, .int .i64 M.gang, .slice a3 M.pods.length c3, .slice a4 M.peers.length c4, .bool M.yes] (.bool true) M w wr ∧ MsgAt w9.heap.size wr (.agg #[.int .i64 M.kind, .int .i64 M.src, .int .i64 M.dst, .int .i64 M.gang, .slice a3 M.pods.length c3, .slice a4 M.peers.length c4, .bool M.yes]) M ∧ (∃ cs, wr.heap[gx]? = some (.cells cs 3 (0, 0)) ∧ 1 ≤ cs.size) ∧ (∀ g, a1 = some ⟨g, 0, none⟩ → ∃ cs, wr.heap[g]? = some (.cells cs 53 (0, 0)) ∧ M.pods.length * 7 ≤ cs.size)) (fun i _ => M.pods.length - (intOf i).toNat)
  case atStart => exact ⟨0, rfl, Nat.zero_le _, HOW.out, HWANT.out, HX14.out, HPB14.out⟩
  case round =>
    clear HOW HWANT HX14 HPB14
    obtain ⟨k, rfl, hk, how, hwant, ⟨cx, hcx, hcx1⟩, hpb⟩ := hrel
    have m4 := cell_of_block how.m 4 _ rfl
    have m5 := cell_of_block how.m 5 _ rfl
    have HOW := Lib.hid how
    have HWANT := Lib.hid hwant
    have HCX := Lib.hid hcx
    have HPB := Lib.hid hpb
    have HCX1 := Lib.hid hcx1
    clear how hwant hcx hpb hcx1
    by_cases hlt : k < M.pods.length
    · have hm8 := HM8.out
      have hlt' : (k : Int) < M.pods.length := by omega
      obtain ⟨gp, rfl, hgp1, hgp2⟩ := HGP2.out (by omega)
      obtain ⟨cs, hcs, hcsl⟩ := HPB.out gp rfl
      obtain ⟨xv, hcell⟩ : ∃ xv, wr.cell? ⟨gp, k * 7, none⟩ = some xv := ⟨_, cell_of_block hcs (k * 7) _ (Array.getElem?_eq_getElem (by omega))⟩
      have hfr := free_of_block hcs
      have HCS := Lib.hid hcs
      have HG1 := Lib.hid hgp1
      have HG2 := Lib.hid hgp2
      have HCSL := Lib.hid hcsl
      clear hcs hgp1 hgp2 hcsl
      go_wp2
      go_roundw
      case rel =>
        have hlow : w.heap.size ≤ gp := Nat.le_trans HB6.out.size HG1.out
        refine ⟨k + 1, by go_num, by omega, HOW.out.touch _ HCS.out (.inl rfl) (Nat.lt_of_lt_of_le HG2.out HS12.out) hlow, HWANT.out.from_ fun g h1 h2 => (But.set wr gp _ _).block g h2 (by have := HG2.out; omega), ?_, ?_⟩
        · obtain ⟨cx, h1, h2⟩ := (⟨cx, HCX.out, HCX1.out⟩ : ∃ cs, wr.heap[gx]? = some (.cells cs 3 (0, 0)) ∧ 1 ≤ cs.size)
          exact ⟨cx, (But.set wr gp _ _).still HCS.out (T := fun e => e = 3) (by decide) _ _ _ rfl h1, h2⟩
        · intro g hg
          have : gp = g := by simpa using hg
          subst this
          exact ⟨_, heap_setCell_same _ _ _ _ _ _ HCS.out, by have := HCSL.out; simpa using this⟩
      case measure => simp [intOf]; omega
    · obtain rfl : k = M.pods.length := by omega
      have hx0 := HMX.out
      have hx1 : (0 : Int) < M.peers.length := by omega
      obtain ⟨xv, hcell⟩ : ∃ xv, wr.cell? ⟨gx, 0, none⟩ = some xv := ⟨_, cell_of_block HCX.out 0 _ (Array.getElem?_eq_getElem (by have := HCX1.out; omega))⟩
      have hfr := free_of_block HCX.out
      go_upto_region 15 with fail
      have how16 := HOW.out.touch (q := 0) (.int .i64 9) HCX.out (.inr rfl) (Nat.lt_of_lt_of_le HGX2.out HS12.out) (Nat.le_trans HB6.out.size HGX1.out)
      have hw16 : MsgAt w9.heap.size (wr.setCell ⟨gx, 0, none⟩ (.int .i64 9)) (.agg #[.int .i64 M.kind, .int .i64 M.src, .int .i64 M.dst, .int .i64 M.gang, .slice a3 M.pods.length c3, .slice a4 M.peers.length c4, .bool M.yes]) M := HWANT.out.from_ fun g h1 h2 => (But.set wr gx 0 _).block g h2 (by have := HGX2.out; omega)
      generalize World.setCell _ _ _ = w16 at how16 hw16 ⊢
      have HW16 := Lib.hid hw16
      have HP16 := Lib.hid (how16.postAt (Nat.le_succ_of_le HL1.out))
      have HQ16 := Lib.hid (how16.qAt (by have := HL1.out; have := HL2.out; omega) (by have := HL1.out; have := HL2.out; omega))
      have HG16 := Lib.hid how16.wn
      have HB16 := Lib.hid how16.below
      clear how16 hw16 HOW HWANT HPB HCX HCX1 hcell hfr m4 m5 hx0 hx1
      have hat := at_get w.heap.size w16 _ [M] HP16.out 0 (by simp)
      rw [show [M].getD 0 noMsg = M from rfl] at hat
      have HAT := Lib.hid hat
      clear hat
      go_upto_region 16 with fail
      refine HAT.out.mono ?_
      rintro e w17 ⟨a5, c5, a6, c6, rfl, hv17, hb17⟩
      have HV17 := Lib.hid hv17
      have HB17 := Lib.hid hb17
      clear hv17 hb17 HAT
      go_upto_region 16 with fail
      generalize hw18 : World.alloc w17 _ = w18
      have hb18 : Below w17.heap.size w17 w18 := by rw [← hw18]; exact below_alloc' (Below.refl _ _) _
      have z18 : w18.heap[w17.heap.size]? = some (.cells #[.int .i64 M.kind, .int .i64 M.src, .int .i64 M.dst, .int .i64 M.gang, .slice a5 M.pods.length c5, .slice a6 M.peers.length c6, .bool M.yes] 26 (0, 0)) := by rw [← hw18]; exact alloc_at _ _
      have hb618 := below_call HB17.out hb18
      have g18 := block_below HG16.out hb618
      have e0 := cell_of_block z18 0 _ rfl
      have e1 := cell_of_block z18 1 _ rfl
      have e2 := cell_of_block z18 2 _ rfl
      have e3 := cell_of_block z18 3 _ rfl
      have e4 := cell_of_block z18 4 _ rfl
      have e5 := cell_of_block z18 5 _ rfl
      have e6 := cell_of_block z18 6 _ rfl
      have f0 := cell_of_block g18 0 _ rfl
      have f1 := cell_of_block g18 1 _ rfl
      have f2 := cell_of_block g18 2 _ rfl
      have f3 := cell_of_block g18 3 _ rfl
      have f4 := cell_of_block g18 4 _ rfl
      have f5 := cell_of_block g18 5 _ rfl
      have f6 := cell_of_block g18 6 _ rfl
      have Z18 := Lib.hid z18
      have HV18 := Lib.hid (HV17.out.still (Still.of_below hb18))
      have HW18 := Lib.hid (HW16.out.still (Still.of_below hb618))
      have HB18 := Lib.hid hb618
      clear hw18 hb18 z18 hb618 g18
      go_wp2_with fail
      refine (same_any _ _ w18 _ _ M HV18.out HW18.out HMF.out).mono ?_
      rintro e w19 ⟨rfl, hb19⟩
      have HB19 := Lib.hid (below_call HB18.out hb19)
      have Z19 := Lib.hid (block_below Z18.out hb19)
      have hpods19 : ∀ g, a5 = some ⟨g, 0, none⟩ → w16.heap.size ≤ g ∧ ∃ cs, w19.heap[g]? = some (.cells cs 53 (0, 0)) ∧ M.pods.length * 7 ≤ cs.size := by
        intro g hg
        obtain ⟨u, x, e, ⟨cc, h3, _⟩, _⟩ := HV18.out.still (Still.of_below hb19)
        injection e with e
        simp only [Array.mk.injEq, List.cons.injEq] at e
        obtain ⟨_, _, _, _, rfl, _⟩ := e
        exact ⟨(h3.lt g (by rw [hg]; rfl)).1, own_size h3 g (by rw [hg]; rfl)⟩
      have hnone : 0 < M.pods.length → ∃ g, a5 = some ⟨g, 0, none⟩ := by
        intro h
        obtain ⟨u, x, e, ⟨cc, h3, _⟩, _⟩ := HV18.out
        injection e with e
        simp only [Array.mk.injEq, List.cons.injEq] at e
        obtain ⟨_, _, _, _, rfl, _⟩ := e
        obtain ⟨g, cap, e, _⟩ := (own_forms h3).resolve_left (by rintro ⟨_, h, _⟩; omega)
        injection e with e1
        exact ⟨g, e1⟩
      have HPD19 := Lib.hid hpods19
      have HN5 := Lib.hid hnone
      clear hb19 hpods19 hnone e0 e1 e2 e3 e4 e5 e6 f0 f1 f2 f3 f4 f5 f6 HV17 HV18 HW18 Z18 HB17
      go_wp2_with fail
      refine (len_is w.heap.size w19 _ [] (HQ16.out.below HB19.out) 0 rfl).mono ?_
      rintro e w20 ⟨rfl, rfl⟩
      go_wp2
      go_loopw [12] (fun i wr => ∃ k : Nat, i = .int .i64 k ∧ k ≤ M.pods.length ∧ Below w16.heap.size w16 wr ∧ wr.heap[w17.heap.size]? = some (.cells #[.int .i64 M.kind, .int .i64 M.src, .int .i64 M.dst, .int .i64 M.gang, .slice a5 M.pods.length c5, .slice a6 M.peers.length c6, .bool M.yes] 26 (0, 0)) ∧ (∀ g, a5 = some ⟨g, 0, none⟩ → w16.heap.size ≤ g ∧ ∃ cs, wr.heap[g]? = some (.cells cs 53 (0, 0)) ∧ M.pods.length * 7 ≤ cs.size)) (fun i _ => M.pods.length - (intOf i).toNat)
      case atStart => exact ⟨0, rfl, Nat.zero_le _, HB19.out, Z19.out, HPD19.out⟩
      case round =>
        clear HB19 Z19 HPD19
        obtain ⟨k, rfl, hk, hb, hz, hpb⟩ := hrel
        have m4 := cell_of_block hz 4 _ rfl
        have HB := Lib.hid hb
        have HZ := Lib.hid hz
        have HPB := Lib.hid hpb
        clear hb hz hpb
        by_cases hlt : k < M.pods.length
        · have hm8 := HM8.out
          have hlt' : (k : Int) < M.pods.length := by omega
          obtain ⟨gp, rfl⟩ := HN5.out (by omega)
          obtain ⟨hgp, cs, hcs, hcsl⟩ := HPB.out gp rfl
          obtain ⟨xv, hcell⟩ : ∃ xv, wr.cell? ⟨gp, k * 7, none⟩ = some xv := ⟨_, cell_of_block hcs (k * 7) _ (Array.getElem?_eq_getElem (by omega))⟩
          have hfr := free_of_block hcs
          have HCS := Lib.hid hcs
          have HG1 := Lib.hid hgp
          have HCSL := Lib.hid hcsl
          clear hcs hgp hcsl
          go_wp2
          go_roundw
          case rel =>
            refine ⟨k + 1, by go_num, by omega, HB.out.setCell HG1.out _, (But.set wr gp _ _).still HCS.out (T := fun e => e = 26) (by decide) _ _ _ rfl HZ.out, ?_⟩
            intro g hg
            have : gp = g := by simpa using hg
            subst this
            exact ⟨HG1.out, _, heap_setCell_same _ _ _ _ _ _ HCS.out, by have := HCSL.out; simpa using this⟩
          case measure => simp [intOf]; omega
        · obtain rfl : k = M.pods.length := by omega
          have HPw := Lib.hid (HP16.out.below HB.out)
          have HWw := Lib.hid (HW16.out.still (Still.of_below HB.out))
          have HGw := Lib.hid (block_below HG16.out HB.out)
          have HBw := Lib.hid (HB16.out.trans (HB.out.mono HB16.out.size))
          clear HB HZ HPB HP16 HQ16 HW16 HG16 HB16
          go_wp2_with fail
          refine (copy_yes w.heap.size wr _ [M] HPw.out HBw.out.size 0 (by simp) (by simp)).mono ?_
          rintro e w21 ⟨rfl, hp21, hb21, hs21⟩
          rw [show [M] ++ [[M].getD 0 noMsg] = [M, M] from rfl] at hp21
          have HP21 := Lib.hid hp21
          have HB21 := Lib.hid (HBw.out.trans hb21)
          have HW21 := Lib.hid (HWw.out.still (parts_rest hs21))
          have HG21 := Lib.hid (hs21 _ _ _ ⟨by decide, by decide⟩ HGw.out)
          clear hp21 hb21 hs21 HPw HWw HGw HBw
          have htk := take_get w.heap.size w21 _ [M, M] HP21.out HB21.out.size 0 (by simp)
          rw [show [M, M].getD 0 noMsg = M from rfl, show [M, M].eraseIdx 0 = [M] from rfl] at htk
          have HTK := Lib.hid htk
          clear htk
          go_upto_region 24 with fail
          refine HTK.out.mono ?_
          rintro e w22 ⟨a7, c7, a8, c8, rfl, hv22, hp22, hb22, hs22⟩
          have HV22 := Lib.hid hv22
          have HP22 := Lib.hid hp22
          have HB22 := Lib.hid (HB21.out.trans hb22)
          have HW22 := Lib.hid (HW21.out.still (parts_rest hs22))
          have HG22 := Lib.hid (hs22 _ _ _ ⟨by decide, by decide⟩ HG21.out)
          clear hv22 hp22 hb22 hs22 HTK HP21 HB21 HW21 HG21
          go_upto_region 24 with fail
          generalize hw23 : World.alloc w22 _ = w23
          have hb23 : Below w22.heap.size w22 w23 := by rw [← hw23]; exact below_alloc' (Below.refl _ _) _
          have z23 : w23.heap[w22.heap.size]? = some (.cells #[.int .i64 M.kind, .int .i64 M.src, .int .i64 M.dst, .int .i64 M.gang, .slice a7 M.pods.length c7, .slice a8 M.peers.length c8, .bool M.yes] 26 (0, 0)) := by rw [← hw23]; exact alloc_at _ _
          have Z23 := Lib.hid z23
          have HB23 := Lib.hid hb23
          have hat := at_get w.heap.size w23 _ [M] (HP22.out.below hb23) 0 (by simp)
          rw [show [M].getD 0 noMsg = M from rfl] at hat
          have HAT := Lib.hid hat
          clear hw23 hb23 z23 hat
          go_upto_region 25 with fail
          refine HAT.out.mono ?_
          rintro e w24 ⟨a9, c9, a10, c10, rfl, hv24, hb24⟩
          have HV24 := Lib.hid hv24
          have HB24 := Lib.hid hb24
          clear hv24 hb24 HAT
          go_upto_region 25 with fail
          generalize hw25 : World.alloc w24 _ = w25
          have hb25 : Below w24.heap.size w24 w25 := by rw [← hw25]; exact below_alloc' (Below.refl _ _) _
          have z25 : w25.heap[w24.heap.size]? = some (.cells #[.int .i64 M.kind, .int .i64 M.src, .int .i64 M.dst, .int .i64 M.gang, .slice a9 M.pods.length c9, .slice a10 M.peers.length c10, .bool M.yes] 26 (0, 0)) := by rw [← hw25]; exact alloc_at _ _
          have hb325 := below_call HB24.out hb25
          have g25 := block_below HG22.out (below_call HB23.out hb325)
          have y25 := block_below Z23.out hb325
          have e0 := cell_of_block y25 0 _ rfl
          have e1 := cell_of_block y25 1 _ rfl
          have e2 := cell_of_block y25 2 _ rfl
          have e3 := cell_of_block y25 3 _ rfl
          have e4 := cell_of_block y25 4 _ rfl
          have e5 := cell_of_block y25 5 _ rfl
          have e6 := cell_of_block y25 6 _ rfl
          have f0 := cell_of_block g25 0 _ rfl
          have f1 := cell_of_block g25 1 _ rfl
          have f2 := cell_of_block g25 2 _ rfl
          have f3 := cell_of_block g25 3 _ rfl
          have f4 := cell_of_block g25 4 _ rfl
          have f5 := cell_of_block g25 5 _ rfl
          have f6 := cell_of_block g25 6 _ rfl
          have HW25 := Lib.hid (HW22.out.still (Still.of_below (below_call HB23.out hb325)))
          have HV25 := Lib.hid (HV22.out.still (Still.of_below (below_call HB23.out hb325)))
          have HU25 := Lib.hid (HV24.out.still (Still.of_below hb25))
          have HB25 := Lib.hid (below_call HB23.out hb325)
          have Z25 := Lib.hid z25
          have G25 := Lib.hid g25
          clear hw25 hb25 z25 hb325 g25 y25
          go_wp2_with fail
          refine (same_any _ _ w25 _ _ M HV25.out HW25.out HMF.out).mono ?_
          rintro e w26 ⟨rfl, hb26⟩
          have HB26 := Lib.hid hb26
          clear e0 e1 e2 e3 e4 e5 e6 f0 f1 f2 f3 f4 f5 f6 hb26
          have y26 := block_below Z25.out HB26.out
          have g26 := block_below G25.out HB26.out
          have e0 := cell_of_block y26 0 _ rfl
          have e1 := cell_of_block y26 1 _ rfl
          have e2 := cell_of_block y26 2 _ rfl
          have e3 := cell_of_block y26 3 _ rfl
          have e4 := cell_of_block y26 4 _ rfl
          have e5 := cell_of_block y26 5 _ rfl
          have e6 := cell_of_block y26 6 _ rfl
          have f0 := cell_of_block g26 0 _ rfl
          have f1 := cell_of_block g26 1 _ rfl
          have f2 := cell_of_block g26 2 _ rfl
          have f3 := cell_of_block g26 3 _ rfl
          have f4 := cell_of_block g26 4 _ rfl
          have f5 := cell_of_block g26 5 _ rfl
          have f6 := cell_of_block g26 6 _ rfl
          clear y26 g26
          go_wp2_with fail
          refine (same_any _ _ w26 _ _ M (HU25.out.still (Still.of_below HB26.out)) (HW25.out.still (Still.of_below HB26.out)) HMF.out).mono ?_
          rintro e w27 ⟨rfl, hb27⟩
          have HB27 := Lib.hid hb27
          clear e0 e1 e2 e3 e4 e5 e6 f0 f1 f2 f3 f4 f5 f6 hb27
          go_wp2
          go_ret
          exact ⟨rfl, HB22.out.trans ((below_call (below_call HB25.out HB26.out) HB27.out).mono HB22.out.size)⟩

theorem postOwn_row (a0 : Option Addr) (len0 cap0 : Nat) (z0 : List Int) (n : Int) (w : World) (w0 : IsRow .i64 w a0 len0 cap0 z0) (y0 : len0 * 8 ≤ 140737488351232) (_ : (Lit.int .i64 n).wf = true) (ht : Tabs w) :
    Calls Tryd.prog 8 #[.slice a0 len0 cap0, .int .i64 n] w fun e w' => e = .returned (.bool true) ∧ Below w.heap.size w w' :=
  postOwn_any _ _ n w (nums_row w0 y0) ht
end Go.Proofs.YtpkkjonajimefaaDoor
