/- What is held alone is held for six ticks. -/
import Derived.Test.YtofofjfmhaggmaaGreatDoorZh
set_option linter.unusedVariables false
set_option linter.unusedSimpArgs false
namespace Go.Proofs.YtofofjfmhaggmaaGreatDoor
open Go.RowKit

/-- The shard with so many ticks left for the gang. -/
def hL (k : Nat) : ShL := if k = 0 then h0N 0 5 else { h0N 0 5 with led := ⟨(h0N 0 5).led.nodes, [(3, [⟨[112], [110], 5, 0, false⟩])]⟩, gangs := [(3, .held k)] }
section
set_option maxRecDepth 100000
theorem seven {k : Nat} (h : k ≤ 6) : k = 0 ∨ k = 1 ∨ k = 2 ∨ k = 3 ∨ k = 4 ∨ k = 5 ∨ k = 6 := by omega
theorem lease_get {k : Nat} (h : k ≤ 6) : (hL k).get (holdM 3 5) = (hL 6, [⟨2, 1, 0, 3, [], [], true⟩]) := by
  rcases seven h with rfl | rfl | rfl | rfl | rfl | rfl | rfl <;> kernel_rfl
theorem lease_tick {k : Nat} (h : k ≤ 6) : (hL k).tick = (hL (k - 1), []) := by
  rcases seven h with rfl | rfl | rfl | rfl | rfl | rfl | rfl <;> kernel_rfl
theorem lease_st {k : Nat} (h : k ≤ 6) : stN ((hL k).st 3) = if k = 0 then 0 else 1 := by
  rcases seven h with rfl | rfl | rfl | rfl | rfl | rfl | rfl <;> kernel_rfl
theorem lease_cpu {k : Nat} (h : k ≤ 6) : ((hL k).led.cpu [110] : Int) = if k = 0 then 0 else 5 := by
  rcases seven h with rfl | rfl | rfl | rfl | rfl | rfl | rfl <;> kernel_rfl
theorem lease_recs {k : Nat} (h : k ≤ 6) : (hL k).recs.length ≤ 990 := by
  rcases seven h with rfl | rfl | rfl | rfl | rfl | rfl | rfl <;> exact Nat.le_of_ble_eq_true (by kernel_rfl)
theorem lease_inv {k : Nat} (h : k ≤ 6) : (hL k).inv 3 := by
  have h0 : (hL 0).inv 0 := h0N_inv 0 5
  have h6 : (hL 6).inv 2 := by
    have := h0.get (holdM_b (g := 3) (c := 5) (by decide) (by decide))
    rwa [lease_get (by decide)] at this
  by_cases hk : k = 0
  · subst hk; exact h0.mono (by decide)
  · have e : hL k = (hL 6).set 3 (.held k) := by
      rcases seven h with rfl | rfl | rfl | rfl | rfl | rfl | rfl
      · exact absurd rfl hk
      all_goals kernel_rfl
    rw [e]
    exact h6.set (by decide) (by kernel_rfl) (show 1 ≤ (k : Int) ∧ (k : Int) ≤ 6 by omega)
end
theorem IsRow.to {k : IntKind} {w w' : World} {a : Option Addr} {len cap : Nat} {zs : List Int} (h : IsRow k w a len cap zs) (hb : Below w.heap.size w w') (hl : 0 < len) : ∃ b off, a = some ⟨b, off, none⟩ ∧ len ≤ cap ∧ ∀ i, i < len → ∃ z, w'.cell? ⟨b, off + i, none⟩ = some (.int k z) := by
  obtain ⟨b, off, e, h1, h2, h3⟩ := h.at_ hl
  refine ⟨b, off, e, h1, fun i hi => ?_⟩
  exact ⟨_, cell_below (h3 i hi) hb⟩
set_option maxHeartbeats 16000000 in
set_option maxRecDepth 100000 in
theorem shardLease_any (a0 : Option Addr) (len0 cap0 : Nat) (z0 : List Int) (n : Int) (w : World) (w0 : IsRow .i64 w a0 len0 cap0 z0) (y0 : len0 * 8 ≤ 140737488351232) (hw : Fine w) : Calls Tryz.prog 10 #[.slice a0 len0 cap0, .int .i64 n] w fun e w' => e = .returned (.bool true) ∧ Below w.heap.size w w' := by
  have HW := Lib.hid (And.intro hw w0)
  clear hw w0
  go_enter Tryz.func10, Tryz.ntmps10
  go_wp2_with fail
  refine (known_any w HW.out.1).mono ?_
  rintro e w1 ⟨rfl, hb1⟩
  have HB1 := Lib.hid hb1
  have HF1 := Lib.hid (HW.out.1.below hb1)
  clear hb1
  go_wp2_with fail
  refine (open_nil w1 0 HF1.out).mono ?_
  rintro e w2 ⟨W, s, l, a, b, m, t, x, y, lb, rfl, hL, hnew, -, -, -, hb2⟩
  have HO := Lib.hid (OneK.mk (K := []) (OneAt1.mk hL ⟨hnew.1, hnew.2.1, hnew.2.2.1, hnew.2.2.2, fun g hg => by cases hg⟩ hb2) (fun p hp => by cases hp))
  obtain ⟨e0, e1, e2, e3, e4⟩ := cells5 hL.box
  clear hL hnew hb2
  go_wp2_with fail
  refine (stnode_any (n := ndN 5) HO.out.one.lw.sh HO.out.one.lw.fine.tabs HO.out.one.lw.old LedL.none_ok (Nat.zero_le _) (Nat.zero_le _) (ndN_q _ _ 5) (ndN_few (by decide))).mono ?_
  rintro e w3 ⟨rfl, hP⟩
  rw [show (ShL.bare 1 0 [] 0).led.errPut (ndN 5) = 0 by kernel_rfl]
  obtain ⟨tv, hO3⟩ := HO.out.did hP
  have HO3 : Hid (OneK w1 w3 W s l a b m t tv (hL 0) x y []) := Lib.hid hO3
  clear hP hO3 e0 e1 e2 e3 e4
  go_upto_region 7 with fail
  have hA := (HO3.out.below (below_alloc' (Below.refl _ _) (.cells (podC 5) 62))).add (T := 62) (alloc_at _ _) (by decide) (by decide)
  have hB := (hA.below (below_alloc' (Below.refl _ _) (.cells (holdC 3 w3.heap.size) 28))).add (T := 28) (alloc_at _ _) (by decide) (by decide)
  rw [show (w3.alloc (.cells (podC 5) 62)).heap.size = w3.heap.size + 1 by simp] at hB
  generalize World.alloc _ (.cells (holdC 3 w3.heap.size) 28) = w4 at hB ⊢
  generalize w3.heap.size = b0 at hB ⊢
  generalize b0 + 1 = b1 at hB ⊢
  have HO4 := Lib.hid hB
  have hlen : len0 ≤ 17592186044416 := by omega
  clear hA hB HO3 HO HF1
  go_wp2_with fail
  go_loopw [7, 8] (fun u i wr => ∃ (j k : Nat) (tv : Value), i = .int .i64 j ∧ u = .int .i64 k ∧ j ≤ 30 ∧ k ≤ 6 ∧ OneK w1 wr W s l a b m t tv (hL k) x y [(b1, holdC 3 b0, 28), (b0, podC 5, 62)]) (fun _ i _ => 30 - (intOf i).toNat)
  case atStart => exact ⟨0, 0, _, rfl, rfl, by decide, by decide, HO4.out⟩
  case round =>
    clear HO4
    obtain ⟨j, k, tv1, rfl, rfl, hj, hk, hO⟩ := hrel
    have HO := Lib.hid hO
    clear hO
    by_cases hj30 : j < 30
    · have hj0 : (0 : Int) ≤ (j : Int) := by omega
      have hj1 : (j : Int) < 30 := by omega
      go_upto_region 11 with fail
      go_cut [57] (fun v wx => (∃ c : Bool, v = .bool c) ∧ wx = wr)
      case first =>
        obtain ⟨q, hq⟩ : ∃ q, ((k : Int) == 0) = q := ⟨_, rfl⟩
        have hcell : len0 ≤ j ∨ (j < len0 ∧ ∃ b off z, a0 = some ⟨b, off, none⟩ ∧ len0 ≤ cap0 ∧ wr.cell? ⟨b, off + j, none⟩ = some (.int .i64 z)) := by
          by_cases h : j < len0
          · obtain ⟨b, off, e, hc, hz⟩ := HW.out.2.to (below_call HB1.out HO.out.one.below) (by omega)
            obtain ⟨z, hz⟩ := hz j h
            exact .inr ⟨h, b, off, z, e, hc, hz⟩
          · exact .inl (by omega)
        rcases hcell with hlt | ⟨hlt, b', off, z, rfl, hcap, hcell⟩
        · have hlt2 : ¬ (j : Int) < (len0 : Int) := by omega
          cases q <;> go_wp2_with (go_at_call 19; refine (within10_any _ _ (by decide) (by decide) _).mono ?_; rintro r w7 ⟨rfl, rfl⟩)
          all_goals go_meet
          all_goals exact ⟨⟨_, rfl⟩, rfl⟩
        · have hlt2 : (j : Int) < (len0 : Int) := by omega
          cases q <;> go_wp2_with (go_at_call 19; refine (within10_any _ _ (by decide) (by decide) _).mono ?_; rintro r w7 ⟨rfl, rfl⟩)
          all_goals go_meet
          all_goals exact ⟨⟨_, rfl⟩, rfl⟩
      case rest =>
        obtain ⟨⟨c, rfl⟩, rfl⟩ := hcut
        go_upto_if 57 with fail
        go_cut [7] (fun v wx => ∃ (k' : Nat) (tv' : Value), v = .int .i64 k' ∧ k' ≤ 6 ∧ OneK w1 wx W s l a b m t tv' (hL k') x y [(b1, holdC 3 b0, 28), (b0, podC 5, 62)])
        case first =>
          cases c with
          | false =>
            go_wp2
            go_meet
            exact ⟨k, tv1, rfl, hk, HO.out⟩
          | true =>
            have HK := HO
            go_upto_region 12 with fail
            have hfB : ∀ w6, Below wc.heap.size wc.drew w6 → Below wc.heap.size wc w6 := fun w6 hb => (Below.refl wc.heap.size wc).drew.trans hb
            have HFB := Lib.hid hfB
            clear hfB
            refine' Par.wp_region_pars (fun w w' => Below w.heap.size w w') 5 (by kernel_rfl) (by kernel_rfl) (by kernel_rfl) (by kernel_rfl) (by kernel_rfl) (by kernel_rfl)
              (fun w => Below.refl _ w) (fun h k => below_call h k) (fun vals => ?_)
            rotate_left
            simp only [List.take_succ_cons, List.take_zero, List.drop_succ_cons, List.drop_zero]
            iterate 3 (apply Par.par_x rfl; (focus (intro w6 hR hD K hK; replace hK := Lib.hid hK; skip; clear hR hD; go_simp; exact hK.out _ (Below.refl _ _))); simp only [Act.put, List.setIfInBounds_toArray, List.set_cons_zero, List.set_cons_succ, Nat.reduceAdd, List.cons_append, List.nil_append])
            (apply Par.par_x rfl; (focus (intro w6 hR hD K hK; replace hK := Lib.hid hK; obtain ⟨e0, e1, e2, e3, e4⟩ := cells5 (block_below HK.out.one.lw.box (HFB.out w6 hR)); clear hR hD; go_simp; exact hK.out _ (Below.refl _ _))); simp only [Act.put, List.setIfInBounds_toArray, List.set_cons_zero, List.set_cons_succ, Nat.reduceAdd, List.cons_append, List.nil_append])
            (apply Par.par_x rfl; (focus (intro w6 hR hD K hK; replace hK := Lib.hid hK; obtain ⟨e0, e1, e2, e3, e4, e5, e6⟩ := cells7 (block_below (HK.out.keep (b1, holdC 3 b0, 28) (by simp)).1 (HFB.out w6 hR)); clear hR hD; go_simp; exact hK.out _ (Below.refl _ _))); simp only [Act.put, List.setIfInBounds_toArray, List.set_cons_zero, List.set_cons_succ, Nat.reduceAdd, List.cons_append, List.nil_append])
            refine Par.par_end fun w8 hR hp => ?_
            have HK8 := Lib.hid (HK.out.below (HFB.out w8 hR))
            clear hp hR HFB
            go_wp2_with fail
            refine (HK8.out.get (lease_inv hk) (by decide) (lease_recs hk) (hold_k HK8.out (b0 := b0) (c := 5) 3 (by simp)) 3 rfl (holdM_b (g := 3) (c := 5) (by decide) (by decide))).mono ?_
            rintro e w9 ⟨⟨v, rfl, hv⟩, ⟨tv2, hk2⟩, -⟩
            rw [lease_get hk] at hv hk2
            obtain ⟨r0, rc, rfl, k0, -, -, -, k6⟩ := msgRow_one hv
            have HK9 := Lib.hid hk2
            clear hv hk2
            go_wp2
            go_meet
            exact ⟨6, tv2, rfl, by decide, HK9.out⟩
        case rest =>
          obtain ⟨k', tv', rfl, hk', hO'⟩ := hcut
          have HK := Lib.hid hO'
          have hst := lease_st hk'
          have hcp := lease_cpu hk'
          obtain ⟨e0, e1, e2, e3, e4⟩ := cells5 hO'.one.lw.box
          have hkb : (0 : Int) ≤ (k' : Int) ∧ (k' : Int) ≤ 6 := by omega
          have HT := Lib.hid (lease_tick hk')
          clear hO' HO
          have HI := Lib.hid (And.intro (lease_inv hk') (lease_recs hk'))
          by_cases hk0 : k' = 0
          · subst hk0
            rw [if_pos rfl] at hst hcp
            have hpos : True := by first | trivial | omega
            have HS := Lib.hid (And.intro hst hcp)
            clear hst hcp
            go_wp2_with (go_at_call 17; refine (state_any HK.out.one.lw.sh 3).mono ?_; rintro r w7 ⟨rfl, rfl⟩; rw [HS.out.1])
            refine (shused_any HK.out.one.lw.sh HI.out.1.ok (Nat.le_trans HI.out.1.few (by decide)) [110] (u := ⟨#[110]⟩) rfl).mono ?_
            rintro e w8 ⟨rfl, hb8⟩
            rw [HS.out.2]
            have HK8 := Lib.hid (HK.out.below hb8)
            clear hb8 e0 e1 e2 e3 e4
            go_upto_region 19 with fail
            have hb9 : Below w8.heap.size w8 (w8.alloc (.cells #[.int .i64 0, .int .i64 ((hL 0).led.mem [110])] 58)) := below_alloc' (Below.refl _ _) _
            have z9 := alloc_at w8 (.cells #[.int .i64 0, .int .i64 ((hL 0).led.mem [110])] 58)
            generalize World.alloc w8 _ = w10 at hb9 z9 ⊢
            have k0 := cell_of_block z9 0 _ rfl
            have HK10 := Lib.hid (HK8.out.below hb9)
            obtain ⟨e0, e1, e2, e3, e4⟩ := cells5 HK10.out.one.lw.box
            clear hb9 z9
            go_wp2_with fail
            refine (tick_any HK10.out.one.lw.sh HK10.out.one.lw.old (HI.out.1.tickOk (by decide))).mono ?_
            rintro e w11 ⟨⟨v, rfl, hv⟩, hP⟩
            rw [HT.out] at hv
            obtain ⟨va, vc, rfl⟩ := own_slicen hv
            obtain ⟨tv3, hk3⟩ := HK10.out.did hP
            rw [HT.out] at hk3
            have HK11 := Lib.hid hk3
            have hmx : max (0 : Int) ((0 : Int) - 1) = ((0 - 1 : Nat) : Int) := by omega
            clear hv hP hk3 e0 e1 e2 e3 e4 k0
            go_wp2
            go_roundw
            case rel => exact ⟨j + 1, 0 - 1, tv3, by go_num, by first | rfl | rw [hmx], by omega, by omega, HK11.out⟩
            case measure => simp [intOf]; omega
          · skip
            rw [if_neg hk0] at hst hcp
            have hpos : (0 : Int) < (k' : Int) := by first | trivial | omega
            have HS := Lib.hid (And.intro hst hcp)
            clear hst hcp
            go_wp2_with (go_at_call 17; refine (state_any HK.out.one.lw.sh 3).mono ?_; rintro r w7 ⟨rfl, rfl⟩; rw [HS.out.1])
            refine (shused_any HK.out.one.lw.sh HI.out.1.ok (Nat.le_trans HI.out.1.few (by decide)) [110] (u := ⟨#[110]⟩) rfl).mono ?_
            rintro e w8 ⟨rfl, hb8⟩
            rw [HS.out.2]
            have HK8 := Lib.hid (HK.out.below hb8)
            clear hb8 e0 e1 e2 e3 e4
            go_upto_region 19 with fail
            have hb9 : Below w8.heap.size w8 (w8.alloc (.cells #[.int .i64 5, .int .i64 ((hL k').led.mem [110])] 58)) := below_alloc' (Below.refl _ _) _
            have z9 := alloc_at w8 (.cells #[.int .i64 5, .int .i64 ((hL k').led.mem [110])] 58)
            generalize World.alloc w8 _ = w10 at hb9 z9 ⊢
            have k0 := cell_of_block z9 0 _ rfl
            have HK10 := Lib.hid (HK8.out.below hb9)
            obtain ⟨e0, e1, e2, e3, e4⟩ := cells5 HK10.out.one.lw.box
            clear hb9 z9
            go_wp2_with fail
            refine (tick_any HK10.out.one.lw.sh HK10.out.one.lw.old (HI.out.1.tickOk (by decide))).mono ?_
            rintro e w11 ⟨⟨v, rfl, hv⟩, hP⟩
            rw [HT.out] at hv
            obtain ⟨va, vc, rfl⟩ := own_slicen hv
            obtain ⟨tv3, hk3⟩ := HK10.out.did hP
            rw [HT.out] at hk3
            have HK11 := Lib.hid hk3
            have hmx : max (0 : Int) ((k' : Int) - 1) = ((k' - 1 : Nat) : Int) := by omega
            clear hv hP hk3 e0 e1 e2 e3 e4 k0
            go_wp2
            go_roundw
            case rel => exact ⟨j + 1, k' - 1, tv3, by go_num, by first | rfl | rw [hmx], by omega, by omega, HK11.out⟩
            case measure => simp [intOf]; omega
    · have HO' := Lib.hid HO.out.one.below
      go_wp2
      go_ret
      exact ⟨rfl, below_call HB1.out HO'.out⟩
end Go.Proofs.YtofofjfmhaggmaaGreatDoor
