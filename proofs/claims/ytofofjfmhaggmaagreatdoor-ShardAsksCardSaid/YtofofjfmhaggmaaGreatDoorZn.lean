/- One that is prepared asks from its fourth tick on. -/
import Derived.Test.YtofofjfmhaggmaaGreatDoorZm
import Derived.Test.YtofofjfmhaggmaaGreatDoorZh
set_option linter.unusedVariables false
set_option linter.unusedSimpArgs false
namespace Go.Proofs.YtofofjfmhaggmaaGreatDoor
open Go.RowKit

/-- Those who are asked, looked at so far. -/
def toTo (ps : List Nat) (j : Nat) : List Nat := toL (ps.take j)
theorem toTo_succ {ps : List Nat} {j : Nat} (hj : j < ps.length) : toTo ps (j + 1) = toTo ps j ++ (if (ps[j] : Int) = 1 then [] else [ps[j]]) := by
  unfold toTo toL
  rw [List.take_succ_eq_append_getElem hj, List.filter_append, List.cons_append]
  congr 2
  by_cases e : (ps[j] : Int) = 1 <;> simp [e]
theorem toTo_len (ps : List Nat) (j : Nat) : (toTo ps j).length ≤ ps.length + 1 := by
  unfold toTo toL
  have := List.length_filter_le (fun k => !((Int.ofNat k) == 1)) (ps.take j)
  have := List.length_take_le' j ps
  simp only [List.length_cons]
  omega
abbrev intsV (l : List Nat) : List Value := l.map fun k : Nat => Value.int .i64 k
def ToR (w7 : World) (ps : List Nat) (j : Nat) (u : Value) (wr : World) : Prop := Below w7.heap.size w7 wr ∧ wr.ownsRow w7.heap.size 3 1 u (toTo ps j).length (intsV (toTo ps j))
theorem toR_snoc {w7 w2 w3 : World} {ps : List Nat} {j : Nat} {u v : Value} {o : Obj} {p : Nat} (hR : ToR w7 ps j u w2) (hown : w3.ownsRow w7.heap.size 3 1 v ((toTo ps j).length + 1) (intsV (toTo ps j) ++ [.int .i64 p])) (hg : (w2.alloc o).grownBy w3 u.ownBlock) (e : toTo ps (j + 1) = toTo ps j ++ [p]) : ToR w7 ps (j + 1) v w3 := by
  refine ⟨(below_alloc' hR.1 _).grown hg (by have := hR.1.size; simp; omega) (fun k hk => (own_lt hR.2 hk).1), ?_⟩
  rw [e]
  simpa [intsV] using hown
set_option maxHeartbeats 16000000 in
set_option maxRecDepth 100000 in
theorem shardAsks_any (pn tn : Int) (yes : Bool) (w : World) (hw : Fine w) : Calls Tryz.prog 9 #[.int .i64 pn, .int .i64 tn, .bool yes] w fun e w' => e = .returned (.bool true) ∧ Below w.heap.size w w' := by
  have HW := Lib.hid hw
  clear hw
  go_enter Tryz.func9, Tryz.ntmps9
  go_wp2_with fail
  refine (known_any w HW.out).mono ?_
  rintro e w1 ⟨rfl, hb1⟩
  have HB1 := Lib.hid hb1
  have HF1 := Lib.hid (HW.out.below hb1)
  clear hb1
  go_wp2_with fail
  refine (open_nil w1 0 HF1.out).mono ?_
  rintro e w2 ⟨W, s, l, a, b, m, t, x, y, lb, rfl, hL, hnew, -, -, -, hb2⟩
  have HO := Lib.hid (OneK.mk (K := []) (OneAt1.mk hL ⟨hnew.1, hnew.2.1, hnew.2.2.1, hnew.2.2.2, fun g hg => by cases hg⟩ hb2) (fun p hp => by cases hp))
  obtain ⟨e0, e1, e2, e3, e4⟩ := cells5 hL.box
  clear hL hnew hb2
  go_wp2_with fail
  refine (stnode_any (n := ndN 0) HO.out.one.lw.sh HO.out.one.lw.fine.tabs HO.out.one.lw.old LedL.none_ok (Nat.zero_le _) (Nat.zero_le _) (ndN_q _ _ 0) (ndN_few (by decide))).mono ?_
  rintro e w3 ⟨rfl, hP⟩
  rw [show (ShL.bare 1 0 [] 0).led.errPut (ndN 0) = 0 from k_put]
  obtain ⟨tv, hO3⟩ := HO.out.did hP
  have HO3 : Hid (OneK w1 w3 W s l a b m t tv (h0N 0 0) x y []) := Lib.hid hO3
  clear hP hO3 e0 e1 e2 e3 e4
  go_wp2_with fail
  refine (peers_any pn w3).mono ?_
  rintro e w4 ⟨pv, rfl, hpr, hb4⟩
  obtain ⟨pg, pc, pcur, rfl, hpg, hpz, hrow⟩ := row_stays (peers_row hpr) (by have := peers_ne pn; simpa using this)
  obtain ⟨ps, hps⟩ : ∃ ps, peersL pn = ps := ⟨_, rfl⟩
  have HPB := Lib.hid (show peersB ps = true by rw [← hps]; exact peers_rises pn)
  rw [hps] at hrow
  have HROW := Lib.hid hrow
  have HO4 := Lib.hid ((HO3.out.below hb4).add (T := 3) hpz (by decide) (by decide))
  obtain ⟨e0, e1, e2, e3, e4⟩ := cells5 HO4.out.one.lw.box
  have hnl : (peersL pn).length ≤ 4 := by rw [hps]; exact peers_len HPB.out
  rw [hps] at hnl
  rw [hps]
  clear hpr hb4 hpz hrow hps hpg HO3 HO
  go_wp2_with fail
  have HO5 := Lib.hid ((HO4.out.below (below_alloc' (Below.refl _ _) (.cells (podC 0) 62))).add (T := 62) (alloc_at _ _) (by decide) (by decide))
  refine (HO5.out.get (h0N_inv 0 0) (by decide) (Nat.le_of_ble_eq_true (by kernel_rfl)) (hold_k HO5.out (b0 := w4.heap.size) (c := 0) 3 (by simp)) 3 rfl (holdM_b (g := 3) (c := 0) (by decide) (by decide))).mono ?_
  rintro e w6 ⟨⟨v, rfl, -⟩, ⟨tv6, hk6⟩, -⟩
  have HO6 : Hid (OneK w1 w6 W s l a b m t tv6 hH x y [(w4.heap.size, podC 0, 62), (pg, pcur, 3)]) := Lib.hid hk6
  obtain ⟨e0, e1, e2, e3, e4⟩ := cells5 hk6.one.lw.box
  clear hk6 HO5 HO4
  generalize w4.heap.size = b0 at HO6
  go_wp2_with fail
  refine (HO6.out.get hH_inv (by decide) h_recs (prepA_v (own_base (HROW.out w6 (HO6.out.keep (pg, pcur, 3) (by simp)).1) (Nat.zero_le _)) (HO6.out.far (p := (pg, pcur, 3)) (by simp))) 3 rfl (prepA_b HPB.out)).mono ?_
  rintro e w7 ⟨⟨v, rfl, hv⟩, ⟨tv7, hk7⟩, -⟩
  rw [a_prep] at hv hk7
  obtain ⟨r0, rc, rfl, k0, -, -, -, k6⟩ := msgRow_one hv
  have HO7 := Lib.hid hk7
  clear hv hk7 HO6 e0 e1 e2 e3 e4
  go_upto_region 12 with fail
  have hR0 : ToR w7 ps 0 (.slice (some ⟨w7.heap.size, 0, none⟩) 1 1) (w7.alloc (.cells #[.int .i64 0] 3)) := ⟨below_alloc' (Below.refl _ _) _, ⟨rfl, .inr ⟨_, 1, _, rfl, Nat.le_refl _, alloc_at _ _, Nat.le_refl _, by decide, rfl, rfl⟩⟩⟩
  have HR0 := Lib.hid hR0
  obtain ⟨N, hN⟩ : ∃ N, ps.length = N := ⟨_, rfl⟩
  have HNN := Lib.hid hN
  rw [hN] at hnl
  rw [hN]
  clear hR0 hN k0 k6
  generalize w7.alloc (.cells #[.int .i64 0] 3) = w8 at HR0 ⊢
  go_wp2_with fail
  go_loopw [10, 11] (fun u i wr => ∃ j : Nat, i = .int .i64 j ∧ j ≤ N ∧ ToR w7 ps j u wr) (fun _ i _ => N - (intOf i).toNat)
  case atStart => exact ⟨0, rfl, Nat.zero_le _, HR0.out⟩
  case round =>
    clear HR0
    obtain ⟨j, rfl, hj, hR⟩ := hrel
    have HR := Lib.hid hR
    clear hR
    by_cases hjl : j < N
    · have HJ := Lib.hid hjl
      have hjs : j < ps.length := by rw [HNN.out]; exact hjl
      obtain ⟨p, hp⟩ : ∃ p, ps[j] = p := ⟨_, rfl⟩
      have hrw := HROW.out wr (block_below (HO7.out.keep (pg, pcur, 3) (by simp)).1 HR.out.1)
      rw [HNN.out] at hrw
      have hcell : wr.cell? ⟨pg, j, none⟩ = some (.int .i64 p) := by
        rw [hrw.cellAt j (by omega), List.getElem?_map, List.getElem?_eq_getElem hjs, hp]
        rfl
      have HA := Lib.hid (toTo_succ hjs)
      rw [hp] at HA
      have hj0 : (0 : Int) ≤ (j : Int) := by omega
      have hj1 : (j : Int) < (N : Int) := by omega
      clear hrw hp
      by_cases hpm : (p : Int) = 1
      · have hpm' : ((p : Int) == 1) = true := by rw [hpm]; rfl
        have HA2 := Lib.hid (HA.out.trans (by rw [if_pos hpm, List.append_nil]))
        clear hpm
        go_wp2
        go_roundw
        case rel => exact ⟨j + 1, by go_num, HJ.out, HR.out.1, by rw [HA2.out]; exact HR.out.2⟩
        case measure => have := HJ.out; simp [intOf]; omega
      · have hpm' : ((p : Int) == 1) = false := beq_eq_false_iff_ne.2 hpm
        have HA2 := Lib.hid (HA.out.trans (by rw [if_neg hpm]))
        clear hpm
        go_wp2_with (at_builtin; refine list_appends elt_ints _ _ rfl rfl rfl rfl (own_below HR.out.2 (below_alloc' (Below.refl _ _) _)) (news := [.int .i64 p]) rfl (World.news_of_block (alloc_at _ _)) (by simp [Value.oneCell']) (by have := toTo_len ps j; have := HNN.out; omega) (by have := HR.out.1.size; simp; omega) ?_; intro v'' w'' hown hgrow; have HO := Lib.hid (And.intro hown hgrow); clear hown hgrow)
        have hnew := toR_snoc HR.out HO.out.1 HO.out.2 HA2.out
        have HNW := Lib.hid hnew
        clear hnew
        exact ⟨⟨j + 1, by go_num, HJ.out, HNW.out⟩, by have := HJ.out; simp [intOf]; omega⟩
    · obtain rfl : j = N := by omega
      have hall : toTo ps j = toL ps := by unfold toTo; rw [List.take_of_length_le (by rw [HNN.out]; exact Nat.le_refl _)]
      have hr2 := HR.out.2
      have hb2 := HR.out.1
      rw [hall] at hr2
      obtain ⟨tg, tc, tcur, rfl, htg, htz, htrow⟩ := row_stays hr2 (Nat.succ_ne_zero _)
      have HTR := Lib.hid htrow
      have HOA := Lib.hid ((HO7.out.below hb2).add (T := 3) htz (by decide) (by decide))
      obtain ⟨T, hT, hT8⟩ : ∃ T : Nat, tn % 9 = T ∧ T ≤ 8 := ⟨(tn % 9).toNat, by omega, by omega⟩
      have HT := Lib.hid hT
      obtain ⟨M, hM⟩ : ∃ M, (toL ps).length = M := ⟨_, rfl⟩
      have hM5 : M ≤ 5 := by have := toTo_len ps j; rw [hall, hM] at this; have := HNN.out; omega
      have HMM := Lib.hid hM
      rw [hM]
      clear hall hr2 hb2 htz htrow htg hT hM HR HO7 HF1
      go_wp2_with fail
      go_loopw [12] (fun i wq => ∃ (k : Nat) (tvk : Value), i = .int .i64 ((k : Int) + 1) ∧ k ≤ 1 + T ∧ OneK w1 wq W s l a b m t tvk (hP ps k) x y [(tg, tcur, 3), (b0, podC 0, 62), (pg, pcur, 3)]) (fun i _ => 20 - (intOf i).toNat)
      case atStart => exact ⟨0, _, rfl, Nat.zero_le _, HOA.out⟩
      case round =>
        clear HOA
        obtain ⟨k, tvk, rfl, hk, hO⟩ := hrel
        have HK := Lib.hid hO
        obtain ⟨e0, e1, e2, e3, e4⟩ := cells5 hO.one.lw.box
        have hkb : (0 : Int) ≤ (k : Int) ∧ (k : Int) ≤ 9 := by omega
        clear hO
        go_upto_if 86 with (go_at_call 19; refine (within10_any _ _ (by decide) (by decide) _).mono ?_; rintro r w7 ⟨rfl, rfl⟩; rw [HT.out])
        by_cases hkT : k ≤ T
        · have hkT1 : (k : Int) + 1 ≤ 1 + (T : Int) := by omega
          go_wp2_with fail
          refine (tick_any HK.out.one.lw.sh HK.out.one.lw.old ((hP_inv HPB.out (k := (k : Int)) ⟨by omega, by omega⟩).tickOk (by decide))).mono ?_
          rintro e w9 ⟨⟨v, rfl, hv⟩, hPo⟩
          obtain ⟨tv9, hk9⟩ := HK.out.did hPo
          rw [a_tick, List.append_nil] at hv
          rw [a_tick] at hk9
          have HK9 := Lib.hid (show OneK w1 w9 W s l a b m t tv9 (hP ps ((k + 1 : Nat) : Int)) x y [(tg, tcur, 3), (b0, podC 0, 62), (pg, pcur, 3)] from hk9)
          clear hPo hk9 e0 e1 e2 e3 e4
          by_cases h4 : 4 ≤ (k : Int) + 1
          · rw [if_pos h4, a_asks] at hv
            have hml : ((toL ps).map fun q : Nat => askM 1 q 3).length = M := by rw [List.length_map, HMM.out]
            obtain ⟨ma, mc, rfl⟩ := own_slicen hv
            have HV := Lib.hid hv
            have HML := Lib.hid hml
            rw [hml]
            have HTO := Lib.hid (HTR.out w9 (HK9.out.keep (tg, tcur, 3) (by simp)).1)
            clear hv hml
            go_upto_region 23 with fail
            go_wp2_with fail
            go_loopw [14] (fun i wx => ∃ q : Nat, i = .int .i64 q ∧ q ≤ M ∧ Below w9.heap.size w9 wx) (fun i _ => M - (intOf i).toNat)
            case atStart => exact ⟨0, rfl, Nat.zero_le _, Below.refl _ _⟩
            case round =>
              obtain ⟨q, rfl, hq, hbq⟩ := hrel
              have HBQ := Lib.hid hbq
              clear hbq
              by_cases hqM : q < M
              · have hqs : q < (toL ps).length := by rw [HMM.out]; exact hqM
                have hqs2 : q < ((toL ps).map fun q : Nat => askM 1 q 3).length := by rw [HML.out]; exact hqM
                obtain ⟨mb, mcc, hmv, k0, k1, k2, k3, k6⟩ := msgRow_at (HV.out.below HBQ.out) hqs2
                injection hmv with hm1 hm2 hm3
                subst hm1 hm3
                obtain ⟨z, hz⟩ : ∃ z, (toL ps)[q] = z := ⟨_, rfl⟩
                have hto := (own_below HTO.out HBQ.out).cellAt q (by rw [HMM.out]; omega)
                rw [List.getElem?_map, List.getElem?_eq_getElem hqs, hz] at hto
                rw [List.getElem_map, hz] at k0 k1 k2 k3 k6
                simp only [Option.map_some] at hto
                have hq0 : (0 : Int) ≤ (q : Int) := by omega
                have hq1 : (q : Int) < (M : Int) := by omega
                have HQ := Lib.hid hqM
                simp only [askM] at k0 k1 k2 k3 k6
                clear hz hm2 hqs hqs2
                go_upto_region 26 with fail
                go_quiet (fail)
                go_wp2
                go_roundw
                case rel => exact ⟨q + 1, by go_num, HQ.out, by obtain ⟨z1, z2, z3, z4, z5⟩ := HBQ.out; exact ⟨z1, z2, z3, z4, z5⟩⟩
                case measure => have := HQ.out; simp [intOf]; omega
              · obtain rfl : q = M := by omega
                go_wp2
                go_roundw
                case rel => exact ⟨k + 1, tv9, by go_num, by omega, HK9.out.below HBQ.out⟩
                case measure => simp [intOf]; omega
          · rw [if_neg h4] at hv
            obtain ⟨ma, mc, rfl⟩ := own_slicen hv
            clear hv
            go_upto_region 23 with fail
            go_wp2_with fail
            refine wp_loop_rounds 1 ?_
            rw [rounds_succ]
            go_wp2
            go_roundw
            case rel => exact ⟨k + 1, tv9, by go_num, by omega, HK9.out⟩
            case measure => simp [intOf]; omega
        · obtain rfl : k = T + 1 := by omega
          have hkT1 : ¬ ((T + 1 : Nat) : Int) + 1 ≤ 1 + (T : Int) := by omega
          have hHI := hP_inv HPB.out (k := ((T + 1 : Nat) : Int)) ⟨by omega, by omega⟩
          have HI := Lib.hid hHI
          clear hHI
          go_wp2_with fail
          refine (HK.out.get HI.out (by decide) (by rw [a_recs]; decide) (bare_v _ _ (tellM yes) ⟨rfl, rfl⟩) 3 rfl (bareM_b _ rfl (by simp [tellM]) (by simp [tellM]))).mono ?_
          rintro e w9 ⟨⟨v, rfl, hv⟩, ⟨tv9, hk9⟩, -⟩
          rw [a_tell] at hv hk9
          obtain ⟨ma, mc, rfl⟩ := own_slicen hv
          have HK9 := Lib.hid hk9
          obtain ⟨e0, e1, e2, e3, e4⟩ := cells5 hk9.one.lw.box
          clear hv hk9
          go_wp2_with fail
          refine (tick_any HK9.out.one.lw.sh HK9.out.one.lw.old ((hE_inv HPB.out yes).tickOk (by decide))).mono ?_
          rintro e wa ⟨⟨v, rfl, hv⟩, hPo⟩
          obtain ⟨tva, hka⟩ := HK9.out.did hPo
          rw [a_end] at hv hka
          obtain ⟨na, nc, rfl⟩ := own_slicen hv
          have HKA := Lib.hid hka
          obtain ⟨e0, e1, e2, e3, e4⟩ := cells5 hka.one.lw.box
          have HS := Lib.hid (And.intro (a_st ps yes) (a_pl ps yes))
          have HEI := Lib.hid (hE_inv HPB.out yes).ok
          clear hv hPo hka
          go_upto_region 30 with fail
          cases yes
          all_goals
            go_wp2_with fail
            refine (state_any HKA.out.one.lw.sh 3).mono ?_
            rintro e wb ⟨rfl, rfl⟩
            rw [HS.out.1]
            simp only [if_true, if_false, Bool.false_eq_true]
            go_wp2_with fail
            refine (splaces_any HKA.out.one.lw.sh HEI.out HKA.out.one.lw.old 3).mono ?_
            rintro e wb ⟨qv, rfl, hq, hb⟩
            obtain ⟨qa, qc, rfl⟩ := placesQ_slice hq
            rw [HS.out.2]
            simp only [if_true, if_false, Bool.false_eq_true]
            have HB := Lib.hid hb
            clear hq hb
            go_wp2
            go_ret
            exact ⟨rfl, below_call HB1.out (below_call HKA.out.one.below HB.out)⟩
end Go.Proofs.YtofofjfmhaggmaaGreatDoor
