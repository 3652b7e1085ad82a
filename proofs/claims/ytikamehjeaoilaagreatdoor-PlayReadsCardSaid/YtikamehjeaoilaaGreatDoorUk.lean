/- The reference reads a line's words as an event (printed by gen_ui.py). -/
import Derived.Test.YtikamehjeaoilaaGreatDoorUi
set_option linter.unusedVariables false
set_option linter.unusedSimpArgs false
namespace Go.Proofs.YtikamehjeaoilaaGreatDoor
open Go.RowKit

set_option maxHeartbeats 32000000 in
set_option maxRecDepth 1000000 in
theorem rread_k4 (v : Value) (t0 t1 : List UInt8) (r : List (List UInt8)) (w : World) (hr : RowsC w v (t0 :: t1 :: r)) (hf : few (t0 :: t1 :: r)) (hkk : kindOf t0 = 4) : Calls Tryz.prog 24 #[v] w (RreadPost (t0 :: t1 :: r) w) := by
  obtain ⟨a, c, rfl, hwl, hcap, hcs⟩ := hr
  have HCAP := Lib.hid hcap
  have HF := Lib.hid hf
  have HCS := Lib.hid hcs
  clear hcap hf hcs
  have h2 : ¬ (t0 :: t1 :: r).length < 2 := by simp
  obtain ⟨rl, hrl⟩ : ∃ rl, r.length = rl := ⟨_, rfl⟩
  have hlen : (t0 :: t1 :: r).length = rl + 2 := by simp [hrl]
  rw [hlen] at hwl h2 ⊢
  have HRL := Lib.hid hrl
  have HLEN := Lib.hid hlen
  have hlt2 : ¬ (rl : Int) + 2 < 2 := by omega
  have hge1 : (0 : Int) < (rl : Int) + 2 := by omega
  have hge2 : (1 : Int) < (rl : Int) + 2 := by omega
  obtain ⟨bb, off, rfl, hc0⟩ := HCS.out 0 (by simp)
  obtain ⟨b2, o2, e2, hc1⟩ := HCS.out 1 (by simp)
  simp only [Option.some.injEq, Addr.mk.injEq, and_true] at e2
  obtain ⟨rfl, rfl⟩ := e2
  have hc0 : w.cell? ⟨bb, off, none⟩ = some (.string (str t0)) := hc0
  have hc1 : w.cell? ⟨bb, off + 1, none⟩ = some (.string (str t1)) := hc1
  have HC1 := Lib.hid hc1
  have HT1 : Hid (t1.length ≤ 4294967280) := Lib.hid (HF.out.2 _ (by simp))
  have q00 : ∀ o o', ((w.alloc o).alloc o').cell? ⟨bb, off, none⟩ = some (.string (str t0)) := fun o o' => cell_below hc0 (below_alloc' (below_alloc' (Below.refl _ _) _) _)
  clear hrl hlen hc0 hc1 h2
  go_enter Tryz.func24, Tryz.ntmps24
  go_wp2_with fail
  have H := Lib.hid (two_new w)
  generalize World.alloc (World.alloc w _) _ = w1 at H ⊢
  refine (rkind_any t0 w1).mono ?_
  rintro e w2 ⟨rfl, hb⟩
  replace H := Lib.hid (H.out.call hb)
  obtain ⟨kd, hkd⟩ : ∃ kd, kindOf t0 = kd := ⟨_, rfl⟩
  rw [hkd]
  have HKD := Lib.hid hkd
  have hk11 : kd ≤ 11 := by
    by_cases h : kd = 0
    · omega
    · have := kindOf_inv (w := t0) (by omega)
      omega
  clear hb q00 hkd
  have q11 : ∀ u, (w2.setCell ⟨w.heap.size + 1, 0, none⟩ u).cell? ⟨bb, off + 1, none⟩ = some (.string (str t1)) := fun u => cell_below HC1.out ⟨(H.out.s0 u).bl.os, (H.out.s0 u).bl.tape, (H.out.s0 u).bl.output, (H.out.s0 u).bl.size, (H.out.s0 u).bl.block⟩
  obtain ⟨q0, q1, q2, q3, q4, q5, q6, q7, q8, q9, q10, fq⟩ := H.out.qf
  go_wp2_with fail
  clear q11
  replace H := Lib.hid ((H.out).s0 (.int .i64 kd))
  generalize (w2.setCell ⟨w.heap.size + 1, 0, none⟩ (.int .i64 kd)) = w3 at H ⊢
  clear q0 q1 q2 q3 q4 q5 q6 q7 q8 q9 q10 fq
  refine (rdnumber_any t1 999999 (by decide) HT1.out w3).mono ?_
  rintro e w4 ⟨n, rfl, hn9, hnn, hb⟩
  replace H := Lib.hid (H.out.call hb)
  obtain ⟨okn, hokn⟩ : ∃ q, (numW 999999 t1).isSome = q := ⟨_, rfl⟩
  rw [hokn]
  have HNW := Lib.hid (num_opt hokn hnn)
  clear hb hokn hn9 hnn
  have hk : kd = 4 := by rw [← HKD.out]; exact hkk
  have HKK := Lib.hid hk
  have b0 : ((kd : Int) == 0) = false := beq_eq_false_iff_ne.2 (by omega)
  have b1 : ((kd : Int) == 1) = false := beq_eq_false_iff_ne.2 (by omega)
  have b4 : ((kd : Int) == 4) = true := by rw [hk]; rfl
  have b5 : ((kd : Int) == 5) = false := beq_eq_false_iff_ne.2 (by omega)
  have b10 : ((kd : Int) == 10) = false := beq_eq_false_iff_ne.2 (by omega)
  have HK := Lib.hid hkk
  clear hk hkk
  by_cases hr1 : rl = 1
  · obtain ⟨t2, rfl⟩ : ∃ t2, r = [t2] := by
      have h := HRL.out
      rw [hr1] at h
      match r, h with
      | [x], _ => exact ⟨x, rfl⟩
    have l2 : ((rl : Int) + 2 == 2) = false := beq_eq_false_iff_ne.2 (by omega)
    have l3 : ((rl : Int) + 2 == 3) = true := by rw [hr1]; rfl
    have hge3 : (2 : Int) < (rl : Int) + 2 := by omega
    obtain ⟨b3, o3, e3, hc2⟩ := HCS.out 2 (by simp)
    simp only [Option.some.injEq, Addr.mk.injEq, and_true] at e3
    obtain ⟨rfl, rfl⟩ := e3
    have HC2 : Hid (w.cell? ⟨bb, off + 2, none⟩ = some (.string (str t2))) := Lib.hid hc2
    have HT2 : Hid (t2.length ≤ 4294967280) := Lib.hid (HF.out.2 _ (by simp))
    clear hr1 hc2
    have q12 := cell_below HC2.out H.out.bl
    obtain ⟨q0, q1, q2, q3, q4, q5, q6, q7, q8, q9, q10, fq⟩ := H.out.qf
    go_wp2_with fail
    clear q12
    clear q0 q1 q2 q3 q4 q5 q6 q7 q8 q9 q10 fq
    refine (rdnode_any t2 HT2.out w4).mono ?_
    rintro e w5 ⟨x, u, y, rfl, hu, hy, hbd, hxn, ⟨hul, hux⟩, ⟨hyl, hyx⟩, hpp, hb⟩
    have hbw : w.heap.size ≤ w4.heap.size := H.out.bl.size
    replace H := Lib.hid (H.out.call hb)
    clear hb
    have hxw := nodeW_is t2 x hpp
    have HFU : Hid (few x.marks) := Lib.hid ⟨by have := HT2.out; omega, fun z hz => by have := hux z hz; have := HT2.out; omega⟩
    have HFY : Hid (few x.taints) := Lib.hid ⟨by have := HT2.out; omega, fun z hz => by have := hyx z hz; have := HT2.out; omega⟩
    have HNM : Hid ((str x.name).size ≤ maxLen) := Lib.hid (by rw [str_size]; have := HT2.out; unfold maxLen; omega)
    replace H := Lib.hid (H.out.rows ⟨H.out.r.1, own_base hu hbw, own_base hy hbw⟩)
    obtain ⟨au, lu, cu, rfl⟩ := own_slice hu
    obtain ⟨ay, ly, cy, rfl⟩ := own_slice hy
    obtain ⟨sx, hsx⟩ : ∃ q, setB x.marks = q := ⟨_, rfl⟩
    obtain ⟨sy, hsy⟩ : ∃ q, setB x.taints = q := ⟨_, rfl⟩
    obtain ⟨nx, hnx⟩ : ∃ q, nameB x.name = q := ⟨_, rfl⟩
    obtain ⟨ok, hok⟩ : ∃ q, (pNode 999999999999999 t2).isSome = q := ⟨_, rfl⟩
    obtain ⟨bc, hbc⟩ : ∃ q, decide (x.cpu ≤ 1099511627776) = q := ⟨_, rfl⟩
    obtain ⟨bm, hbm⟩ : ∃ q, decide (x.mem ≤ 1099511627776) = q := ⟨_, rfl⟩
    rw [hok]
    have HSX := Lib.hid hsx
    have HSY := Lib.hid hsy
    have HNX : Hid (nameS (str x.name) = nx) := Lib.hid hnx
    have HEV : Hid (evOf [t0, t1, t2] = if (okn && (ok && (nx && (sx && (sy && (bc && bm)))))) = true then some ⟨4, n, 0, 0, [], x⟩ else none) := Lib.hid (by
      rw [ev_three HK.out (by decide) HNW.out, hxw, hok, hnx, hsx, hsy, hbc, hbm, if_pos rfl]
      generalize (ok && (nx && (sx && (sy && (bc && bm))))) = q
      cases okn <;> cases q <;> rfl)
    have d1 : decide ((x.cpu : Int) ≤ 1099511627776) = bc := by rw [← hbc]; exact decide_eq_decide.2 ⟨fun h => by omega, fun h => by omega⟩
    have d2 : decide ((x.mem : Int) ≤ 1099511627776) = bm := by rw [← hbm]; exact decide_eq_decide.2 ⟨fun h => by omega, fun h => by omega⟩
    clear hsx hsy hnx hok hbc hbm hxw hpp hul hux hyl hyx hxn hbd hu hy hbw
    obtain ⟨zn, hzn⟩ : ∃ q, str x.name = q := ⟨_, rfl⟩
    obtain ⟨n2, hn2⟩ : ∃ q, x.cpu = q := ⟨_, rfl⟩
    obtain ⟨n3, hn3⟩ : ∃ q, x.mem = q := ⟨_, rfl⟩
    obtain ⟨fl, hfl⟩ : ∃ q, x.closed = q := ⟨_, rfl⟩
    have HX1 := Lib.hid (And.intro hzn (And.intro hn2 (And.intro hn3 hfl)))
    rw [hzn] at HNX HNM
    rw [hn2] at d1
    rw [hn3] at d2
    rw [hzn, hn2, hn3, hfl]
    clear hzn hn2 hn3 hfl
    obtain ⟨q0, q1, q2, q3, q4, q5, q6, q7, q8, q9, q10, fq⟩ := H.out.qf
    go_upto_region 17 with fail
    replace H := Lib.hid (((((((H.out).s5 (.string zn)).s6 (.int .i64 n2)).s7 (.int .i64 n3)).s8 (.slice au lu cu)).s9 (.slice ay ly cy)).s10 (.bool fl))
    generalize ((((((w5.setCell ⟨w.heap.size + 1, 5, none⟩ (.string zn)).setCell ⟨w.heap.size + 1, 6, none⟩ (.int .i64 n2)).setCell ⟨w.heap.size + 1, 7, none⟩ (.int .i64 n3)).setCell ⟨w.heap.size + 1, 8, none⟩ (.slice au lu cu)).setCell ⟨w.heap.size + 1, 9, none⟩ (.slice ay ly cy)).setCell ⟨w.heap.size + 1, 10, none⟩ (.bool fl)) = w6 at H ⊢
    clear q0 q1 q2 q3 q4 q5 q6 q7 q8 q9 q10 fq
    cases ok
    · obtain ⟨q0, q1, q2, q3, q4, q5, q6, q7, q8, q9, q10, fq⟩ := H.out.qf
      go_upto_region 28 with fail
      replace H := Lib.hid ((H.out).s1 (.int .i64 n))
      generalize (w6.setCell ⟨w.heap.size + 1, 1, none⟩ (.int .i64 n)) = w9 at H ⊢
      clear q0 q1 q2 q3 q4 q5 q6 q7 q8 q9 q10 fq
      cases okn
      · obtain ⟨q0, q1, q2, q3, q4, q5, q6, q7, q8, q9, q10, fq⟩ := H.out.qf
        obtain ⟨z0, z1, z2, z3, z4, z5, z6, z7, z8, z9, z10, fz⟩ := H.out.zf
        go_wp2
        have hev : evOf [t0, t1, t2] = none := by simpa using HEV.out
        exact rread_leaf (kd := kd) (S := ⟨n, 0, 0, [], x⟩) H.out rfl rfl rfl (by obtain ⟨x1, x2, x3, x4⟩ := HX1.out; subst x1; subst x2; subst x3; subst x4; rfl) rfl rfl rfl (by rw [hev]; rfl) (fun ev h => by rw [hev] at h; cases h)
      · obtain ⟨q0, q1, q2, q3, q4, q5, q6, q7, q8, q9, q10, fq⟩ := H.out.qf
        obtain ⟨z0, z1, z2, z3, z4, z5, z6, z7, z8, z9, z10, fz⟩ := H.out.zf
        go_wp2
        have hev : evOf [t0, t1, t2] = none := by simpa using HEV.out
        exact rread_leaf (kd := kd) (S := ⟨n, 0, 0, [], x⟩) H.out rfl rfl rfl (by obtain ⟨x1, x2, x3, x4⟩ := HX1.out; subst x1; subst x2; subst x3; subst x4; rfl) rfl rfl rfl (by rw [hev]; rfl) (fun ev h => by rw [hev] at h; cases h)
    · cases nx
      · obtain ⟨q0, q1, q2, q3, q4, q5, q6, q7, q8, q9, q10, fq⟩ := H.out.qf
        go_wp2_with fail
        clear q0 q1 q2 q3 q4 q5 q6 q7 q8 q9 q10 fq
        refine (rname_is HNM.out HNX.out w6).mono ?_
        rintro e w7 ⟨rfl, hb⟩
        replace H := Lib.hid (H.out.call hb)
        clear hb
        obtain ⟨q0, q1, q2, q3, q4, q5, q6, q7, q8, q9, q10, fq⟩ := H.out.qf
        go_upto_region 28 with fail
        replace H := Lib.hid ((H.out).s1 (.int .i64 n))
        generalize (w7.setCell ⟨w.heap.size + 1, 1, none⟩ (.int .i64 n)) = w9 at H ⊢
        clear q0 q1 q2 q3 q4 q5 q6 q7 q8 q9 q10 fq
        cases okn
        · obtain ⟨q0, q1, q2, q3, q4, q5, q6, q7, q8, q9, q10, fq⟩ := H.out.qf
          obtain ⟨z0, z1, z2, z3, z4, z5, z6, z7, z8, z9, z10, fz⟩ := H.out.zf
          go_wp2
          have hev : evOf [t0, t1, t2] = none := by simpa using HEV.out
          exact rread_leaf (kd := kd) (S := ⟨n, 0, 0, [], x⟩) H.out rfl rfl rfl (by obtain ⟨x1, x2, x3, x4⟩ := HX1.out; subst x1; subst x2; subst x3; subst x4; rfl) rfl rfl rfl (by rw [hev]; rfl) (fun ev h => by rw [hev] at h; cases h)
        · obtain ⟨q0, q1, q2, q3, q4, q5, q6, q7, q8, q9, q10, fq⟩ := H.out.qf
          obtain ⟨z0, z1, z2, z3, z4, z5, z6, z7, z8, z9, z10, fz⟩ := H.out.zf
          go_wp2
          have hev : evOf [t0, t1, t2] = none := by simpa using HEV.out
          exact rread_leaf (kd := kd) (S := ⟨n, 0, 0, [], x⟩) H.out rfl rfl rfl (by obtain ⟨x1, x2, x3, x4⟩ := HX1.out; subst x1; subst x2; subst x3; subst x4; rfl) rfl rfl rfl (by rw [hev]; rfl) (fun ev h => by rw [hev] at h; cases h)
      · obtain ⟨q0, q1, q2, q3, q4, q5, q6, q7, q8, q9, q10, fq⟩ := H.out.qf
        go_wp2_with fail
        clear q0 q1 q2 q3 q4 q5 q6 q7 q8 q9 q10 fq
        refine (rname_is HNM.out HNX.out w6).mono ?_
        rintro e w7 ⟨rfl, hb⟩
        replace H := Lib.hid (H.out.call hb)
        clear hb
        cases sx
        · have hsu := rset_any _ _ w7 (Texts.of_strs H.out.r.2.1 HFU.out)
          rw [setS_B, HSX.out] at hsu
          have HSU := Lib.hid hsu
          clear hsu
          obtain ⟨q0, q1, q2, q3, q4, q5, q6, q7, q8, q9, q10, fq⟩ := H.out.qf
          go_wp2_with fail
          clear q0 q1 q2 q3 q4 q5 q6 q7 q8 q9 q10 fq
          refine (HSU.out).mono ?_
          rintro e w8 ⟨rfl, hb⟩
          replace H := Lib.hid (H.out.call hb)
          clear hb
          obtain ⟨q0, q1, q2, q3, q4, q5, q6, q7, q8, q9, q10, fq⟩ := H.out.qf
          go_upto_region 28 with fail
          replace H := Lib.hid ((H.out).s1 (.int .i64 n))
          generalize (w8.setCell ⟨w.heap.size + 1, 1, none⟩ (.int .i64 n)) = w9 at H ⊢
          clear q0 q1 q2 q3 q4 q5 q6 q7 q8 q9 q10 fq
          cases okn
          · obtain ⟨q0, q1, q2, q3, q4, q5, q6, q7, q8, q9, q10, fq⟩ := H.out.qf
            obtain ⟨z0, z1, z2, z3, z4, z5, z6, z7, z8, z9, z10, fz⟩ := H.out.zf
            go_wp2
            have hev : evOf [t0, t1, t2] = none := by simpa using HEV.out
            exact rread_leaf (kd := kd) (S := ⟨n, 0, 0, [], x⟩) H.out rfl rfl rfl (by obtain ⟨x1, x2, x3, x4⟩ := HX1.out; subst x1; subst x2; subst x3; subst x4; rfl) rfl rfl rfl (by rw [hev]; rfl) (fun ev h => by rw [hev] at h; cases h)
          · obtain ⟨q0, q1, q2, q3, q4, q5, q6, q7, q8, q9, q10, fq⟩ := H.out.qf
            obtain ⟨z0, z1, z2, z3, z4, z5, z6, z7, z8, z9, z10, fz⟩ := H.out.zf
            go_wp2
            have hev : evOf [t0, t1, t2] = none := by simpa using HEV.out
            exact rread_leaf (kd := kd) (S := ⟨n, 0, 0, [], x⟩) H.out rfl rfl rfl (by obtain ⟨x1, x2, x3, x4⟩ := HX1.out; subst x1; subst x2; subst x3; subst x4; rfl) rfl rfl rfl (by rw [hev]; rfl) (fun ev h => by rw [hev] at h; cases h)
        · have hsu := rset_any _ _ w7 (Texts.of_strs H.out.r.2.1 HFU.out)
          rw [setS_B, HSX.out] at hsu
          have HSU := Lib.hid hsu
          clear hsu
          obtain ⟨q0, q1, q2, q3, q4, q5, q6, q7, q8, q9, q10, fq⟩ := H.out.qf
          go_wp2_with fail
          clear q0 q1 q2 q3 q4 q5 q6 q7 q8 q9 q10 fq
          refine (HSU.out).mono ?_
          rintro e w8 ⟨rfl, hb⟩
          replace H := Lib.hid (H.out.call hb)
          clear hb
          cases sy
          · have hsu := rset_any _ _ w8 (Texts.of_strs H.out.r.2.2 HFY.out)
            rw [setS_B, HSY.out] at hsu
            have HSU := Lib.hid hsu
            clear hsu
            obtain ⟨q0, q1, q2, q3, q4, q5, q6, q7, q8, q9, q10, fq⟩ := H.out.qf
            go_wp2_with fail
            clear q0 q1 q2 q3 q4 q5 q6 q7 q8 q9 q10 fq
            refine (HSU.out).mono ?_
            rintro e wa ⟨rfl, hb⟩
            replace H := Lib.hid (H.out.call hb)
            clear hb
            obtain ⟨q0, q1, q2, q3, q4, q5, q6, q7, q8, q9, q10, fq⟩ := H.out.qf
            go_upto_region 28 with fail
            replace H := Lib.hid ((H.out).s1 (.int .i64 n))
            generalize (wa.setCell ⟨w.heap.size + 1, 1, none⟩ (.int .i64 n)) = w9 at H ⊢
            clear q0 q1 q2 q3 q4 q5 q6 q7 q8 q9 q10 fq
            cases okn
            · obtain ⟨q0, q1, q2, q3, q4, q5, q6, q7, q8, q9, q10, fq⟩ := H.out.qf
              obtain ⟨z0, z1, z2, z3, z4, z5, z6, z7, z8, z9, z10, fz⟩ := H.out.zf
              go_wp2
              have hev : evOf [t0, t1, t2] = none := by simpa using HEV.out
              exact rread_leaf (kd := kd) (S := ⟨n, 0, 0, [], x⟩) H.out rfl rfl rfl (by obtain ⟨x1, x2, x3, x4⟩ := HX1.out; subst x1; subst x2; subst x3; subst x4; rfl) rfl rfl rfl (by rw [hev]; rfl) (fun ev h => by rw [hev] at h; cases h)
            · obtain ⟨q0, q1, q2, q3, q4, q5, q6, q7, q8, q9, q10, fq⟩ := H.out.qf
              obtain ⟨z0, z1, z2, z3, z4, z5, z6, z7, z8, z9, z10, fz⟩ := H.out.zf
              go_wp2
              have hev : evOf [t0, t1, t2] = none := by simpa using HEV.out
              exact rread_leaf (kd := kd) (S := ⟨n, 0, 0, [], x⟩) H.out rfl rfl rfl (by obtain ⟨x1, x2, x3, x4⟩ := HX1.out; subst x1; subst x2; subst x3; subst x4; rfl) rfl rfl rfl (by rw [hev]; rfl) (fun ev h => by rw [hev] at h; cases h)
          · have hsu := rset_any _ _ w8 (Texts.of_strs H.out.r.2.2 HFY.out)
            rw [setS_B, HSY.out] at hsu
            have HSU := Lib.hid hsu
            clear hsu
            obtain ⟨q0, q1, q2, q3, q4, q5, q6, q7, q8, q9, q10, fq⟩ := H.out.qf
            go_wp2_with fail
            clear q0 q1 q2 q3 q4 q5 q6 q7 q8 q9 q10 fq
            refine (HSU.out).mono ?_
            rintro e wa ⟨rfl, hb⟩
            replace H := Lib.hid (H.out.call hb)
            clear hb
            cases bc
            · obtain ⟨q0, q1, q2, q3, q4, q5, q6, q7, q8, q9, q10, fq⟩ := H.out.qf
              go_upto_region 28 with fail
              replace H := Lib.hid ((H.out).s1 (.int .i64 n))
              generalize (wa.setCell ⟨w.heap.size + 1, 1, none⟩ (.int .i64 n)) = w9 at H ⊢
              clear q0 q1 q2 q3 q4 q5 q6 q7 q8 q9 q10 fq
              cases okn
              · obtain ⟨q0, q1, q2, q3, q4, q5, q6, q7, q8, q9, q10, fq⟩ := H.out.qf
                obtain ⟨z0, z1, z2, z3, z4, z5, z6, z7, z8, z9, z10, fz⟩ := H.out.zf
                go_wp2
                have hev : evOf [t0, t1, t2] = none := by simpa using HEV.out
                exact rread_leaf (kd := kd) (S := ⟨n, 0, 0, [], x⟩) H.out rfl rfl rfl (by obtain ⟨x1, x2, x3, x4⟩ := HX1.out; subst x1; subst x2; subst x3; subst x4; rfl) rfl rfl rfl (by rw [hev]; rfl) (fun ev h => by rw [hev] at h; cases h)
              · obtain ⟨q0, q1, q2, q3, q4, q5, q6, q7, q8, q9, q10, fq⟩ := H.out.qf
                obtain ⟨z0, z1, z2, z3, z4, z5, z6, z7, z8, z9, z10, fz⟩ := H.out.zf
                go_wp2
                have hev : evOf [t0, t1, t2] = none := by simpa using HEV.out
                exact rread_leaf (kd := kd) (S := ⟨n, 0, 0, [], x⟩) H.out rfl rfl rfl (by obtain ⟨x1, x2, x3, x4⟩ := HX1.out; subst x1; subst x2; subst x3; subst x4; rfl) rfl rfl rfl (by rw [hev]; rfl) (fun ev h => by rw [hev] at h; cases h)
            · cases bm
              · obtain ⟨q0, q1, q2, q3, q4, q5, q6, q7, q8, q9, q10, fq⟩ := H.out.qf
                go_upto_region 28 with fail
                replace H := Lib.hid ((H.out).s1 (.int .i64 n))
                generalize (wa.setCell ⟨w.heap.size + 1, 1, none⟩ (.int .i64 n)) = w9 at H ⊢
                clear q0 q1 q2 q3 q4 q5 q6 q7 q8 q9 q10 fq
                cases okn
                · obtain ⟨q0, q1, q2, q3, q4, q5, q6, q7, q8, q9, q10, fq⟩ := H.out.qf
                  obtain ⟨z0, z1, z2, z3, z4, z5, z6, z7, z8, z9, z10, fz⟩ := H.out.zf
                  go_wp2
                  have hev : evOf [t0, t1, t2] = none := by simpa using HEV.out
                  exact rread_leaf (kd := kd) (S := ⟨n, 0, 0, [], x⟩) H.out rfl rfl rfl (by obtain ⟨x1, x2, x3, x4⟩ := HX1.out; subst x1; subst x2; subst x3; subst x4; rfl) rfl rfl rfl (by rw [hev]; rfl) (fun ev h => by rw [hev] at h; cases h)
                · obtain ⟨q0, q1, q2, q3, q4, q5, q6, q7, q8, q9, q10, fq⟩ := H.out.qf
                  obtain ⟨z0, z1, z2, z3, z4, z5, z6, z7, z8, z9, z10, fz⟩ := H.out.zf
                  go_wp2
                  have hev : evOf [t0, t1, t2] = none := by simpa using HEV.out
                  exact rread_leaf (kd := kd) (S := ⟨n, 0, 0, [], x⟩) H.out rfl rfl rfl (by obtain ⟨x1, x2, x3, x4⟩ := HX1.out; subst x1; subst x2; subst x3; subst x4; rfl) rfl rfl rfl (by rw [hev]; rfl) (fun ev h => by rw [hev] at h; cases h)
              · obtain ⟨q0, q1, q2, q3, q4, q5, q6, q7, q8, q9, q10, fq⟩ := H.out.qf
                go_upto_region 28 with fail
                replace H := Lib.hid ((H.out).s1 (.int .i64 n))
                generalize (wa.setCell ⟨w.heap.size + 1, 1, none⟩ (.int .i64 n)) = w9 at H ⊢
                clear q0 q1 q2 q3 q4 q5 q6 q7 q8 q9 q10 fq
                cases okn
                · obtain ⟨q0, q1, q2, q3, q4, q5, q6, q7, q8, q9, q10, fq⟩ := H.out.qf
                  obtain ⟨z0, z1, z2, z3, z4, z5, z6, z7, z8, z9, z10, fz⟩ := H.out.zf
                  go_wp2
                  have hev : evOf [t0, t1, t2] = none := by simpa using HEV.out
                  exact rread_leaf (kd := kd) (S := ⟨n, 0, 0, [], x⟩) H.out rfl rfl rfl (by obtain ⟨x1, x2, x3, x4⟩ := HX1.out; subst x1; subst x2; subst x3; subst x4; rfl) rfl rfl rfl (by rw [hev]; rfl) (fun ev h => by rw [hev] at h; cases h)
                · obtain ⟨q0, q1, q2, q3, q4, q5, q6, q7, q8, q9, q10, fq⟩ := H.out.qf
                  obtain ⟨z0, z1, z2, z3, z4, z5, z6, z7, z8, z9, z10, fz⟩ := H.out.zf
                  go_wp2
                  have hev : evOf [t0, t1, t2] = some ⟨4, n, 0, 0, [], x⟩ := by simpa using HEV.out
                  exact rread_leaf (kd := kd) (S := ⟨n, 0, 0, [], x⟩) H.out rfl rfl rfl (by obtain ⟨x1, x2, x3, x4⟩ := HX1.out; subst x1; subst x2; subst x3; subst x4; rfl) rfl rfl rfl (by rw [hev]; rfl) (fun ev h => by rw [hev] at h; cases h; exact ⟨HKK.out.symm, rfl⟩)
  · have HEV := Lib.hid (ev_not3 (t1 := t1) (r := r) HK.out (by decide) (by rw [HRL.out]; exact hr1))
    have l3 : ((rl : Int) + 2 == 3) = false := beq_eq_false_iff_ne.2 (by omega)
    obtain ⟨l2b, l2⟩ : ∃ q, ((rl : Int) + 2 == 2) = q := ⟨_, rfl⟩
    clear hr1
    cases l2b
    · obtain ⟨q0, q1, q2, q3, q4, q5, q6, q7, q8, q9, q10, fq⟩ := H.out.qf
      go_upto_region 28 with fail
      replace H := Lib.hid ((H.out).s1 (.int .i64 n))
      generalize (w4.setCell ⟨w.heap.size + 1, 1, none⟩ (.int .i64 n)) = w9 at H ⊢
      clear q0 q1 q2 q3 q4 q5 q6 q7 q8 q9 q10 fq
      cases okn
      · obtain ⟨q0, q1, q2, q3, q4, q5, q6, q7, q8, q9, q10, fq⟩ := H.out.qf
        obtain ⟨z0, z1, z2, z3, z4, z5, z6, z7, z8, z9, z10, fz⟩ := H.out.zf
        go_wp2
        have hev : evOf (t0 :: t1 :: r) = none := by simpa using HEV.out
        exact rread_leaf (kd := kd) (S := ⟨n, 0, 0, [], noNode⟩) H.out rfl rfl rfl rfl rfl rfl rfl (by rw [hev]; rfl) (fun ev h => by rw [hev] at h; cases h)
      · obtain ⟨q0, q1, q2, q3, q4, q5, q6, q7, q8, q9, q10, fq⟩ := H.out.qf
        obtain ⟨z0, z1, z2, z3, z4, z5, z6, z7, z8, z9, z10, fz⟩ := H.out.zf
        go_wp2
        have hev : evOf (t0 :: t1 :: r) = none := by simpa using HEV.out
        exact rread_leaf (kd := kd) (S := ⟨n, 0, 0, [], noNode⟩) H.out rfl rfl rfl rfl rfl rfl rfl (by rw [hev]; rfl) (fun ev h => by rw [hev] at h; cases h)
    · obtain ⟨q0, q1, q2, q3, q4, q5, q6, q7, q8, q9, q10, fq⟩ := H.out.qf
      go_upto_region 28 with fail
      replace H := Lib.hid ((H.out).s1 (.int .i64 n))
      generalize (w4.setCell ⟨w.heap.size + 1, 1, none⟩ (.int .i64 n)) = w9 at H ⊢
      clear q0 q1 q2 q3 q4 q5 q6 q7 q8 q9 q10 fq
      cases okn
      · obtain ⟨q0, q1, q2, q3, q4, q5, q6, q7, q8, q9, q10, fq⟩ := H.out.qf
        obtain ⟨z0, z1, z2, z3, z4, z5, z6, z7, z8, z9, z10, fz⟩ := H.out.zf
        go_wp2
        have hev : evOf (t0 :: t1 :: r) = none := by simpa using HEV.out
        exact rread_leaf (kd := kd) (S := ⟨n, 0, 0, [], noNode⟩) H.out rfl rfl rfl rfl rfl rfl rfl (by rw [hev]; rfl) (fun ev h => by rw [hev] at h; cases h)
      · obtain ⟨q0, q1, q2, q3, q4, q5, q6, q7, q8, q9, q10, fq⟩ := H.out.qf
        obtain ⟨z0, z1, z2, z3, z4, z5, z6, z7, z8, z9, z10, fz⟩ := H.out.zf
        go_wp2
        have hev : evOf (t0 :: t1 :: r) = none := by simpa using HEV.out
        exact rread_leaf (kd := kd) (S := ⟨n, 0, 0, [], noNode⟩) H.out rfl rfl rfl rfl rfl rfl rfl (by rw [hev]; rfl) (fun ev h => by rw [hev] at h; cases h)
end Go.Proofs.YtikamehjeaoilaaGreatDoor
/-! The reference reads a line's words as an event (printed by gen_ui.py). -/
set_option linter.unusedVariables false
set_option linter.unusedSimpArgs false
namespace Go.Proofs.YtikamehjeaoilaaGreatDoor
open Go.RowKit

set_option maxHeartbeats 32000000 in
set_option maxRecDepth 1000000 in
theorem rread_k5 (v : Value) (t0 t1 : List UInt8) (r : List (List UInt8)) (w : World) (hr : RowsC w v (t0 :: t1 :: r)) (hf : few (t0 :: t1 :: r)) (hkk : kindOf t0 = 5) : Calls Tryz.prog 24 #[v] w (RreadPost (t0 :: t1 :: r) w) := by
  obtain ⟨a, c, rfl, hwl, hcap, hcs⟩ := hr
  have HCAP := Lib.hid hcap
  have HF := Lib.hid hf
  have HCS := Lib.hid hcs
  clear hcap hf hcs
  have h2 : ¬ (t0 :: t1 :: r).length < 2 := by simp
  obtain ⟨rl, hrl⟩ : ∃ rl, r.length = rl := ⟨_, rfl⟩
  have hlen : (t0 :: t1 :: r).length = rl + 2 := by simp [hrl]
  rw [hlen] at hwl h2 ⊢
  have HRL := Lib.hid hrl
  have HLEN := Lib.hid hlen
  have hlt2 : ¬ (rl : Int) + 2 < 2 := by omega
  have hge1 : (0 : Int) < (rl : Int) + 2 := by omega
  have hge2 : (1 : Int) < (rl : Int) + 2 := by omega
  obtain ⟨bb, off, rfl, hc0⟩ := HCS.out 0 (by simp)
  obtain ⟨b2, o2, e2, hc1⟩ := HCS.out 1 (by simp)
  simp only [Option.some.injEq, Addr.mk.injEq, and_true] at e2
  obtain ⟨rfl, rfl⟩ := e2
  have hc0 : w.cell? ⟨bb, off, none⟩ = some (.string (str t0)) := hc0
  have hc1 : w.cell? ⟨bb, off + 1, none⟩ = some (.string (str t1)) := hc1
  have HC1 := Lib.hid hc1
  have HT1 : Hid (t1.length ≤ 4294967280) := Lib.hid (HF.out.2 _ (by simp))
  have q00 : ∀ o o', ((w.alloc o).alloc o').cell? ⟨bb, off, none⟩ = some (.string (str t0)) := fun o o' => cell_below hc0 (below_alloc' (below_alloc' (Below.refl _ _) _) _)
  clear hrl hlen hc0 hc1 h2
  go_enter Tryz.func24, Tryz.ntmps24
  go_wp2_with fail
  have H := Lib.hid (two_new w)
  generalize World.alloc (World.alloc w _) _ = w1 at H ⊢
  refine (rkind_any t0 w1).mono ?_
  rintro e w2 ⟨rfl, hb⟩
  replace H := Lib.hid (H.out.call hb)
  obtain ⟨kd, hkd⟩ : ∃ kd, kindOf t0 = kd := ⟨_, rfl⟩
  rw [hkd]
  have HKD := Lib.hid hkd
  have hk11 : kd ≤ 11 := by
    by_cases h : kd = 0
    · omega
    · have := kindOf_inv (w := t0) (by omega)
      omega
  clear hb q00 hkd
  have q11 : ∀ u, (w2.setCell ⟨w.heap.size + 1, 0, none⟩ u).cell? ⟨bb, off + 1, none⟩ = some (.string (str t1)) := fun u => cell_below HC1.out ⟨(H.out.s0 u).bl.os, (H.out.s0 u).bl.tape, (H.out.s0 u).bl.output, (H.out.s0 u).bl.size, (H.out.s0 u).bl.block⟩
  obtain ⟨q0, q1, q2, q3, q4, q5, q6, q7, q8, q9, q10, fq⟩ := H.out.qf
  go_wp2_with fail
  clear q11
  replace H := Lib.hid ((H.out).s0 (.int .i64 kd))
  generalize (w2.setCell ⟨w.heap.size + 1, 0, none⟩ (.int .i64 kd)) = w3 at H ⊢
  clear q0 q1 q2 q3 q4 q5 q6 q7 q8 q9 q10 fq
  refine (rdnumber_any t1 999999 (by decide) HT1.out w3).mono ?_
  rintro e w4 ⟨n, rfl, hn9, hnn, hb⟩
  replace H := Lib.hid (H.out.call hb)
  obtain ⟨okn, hokn⟩ : ∃ q, (numW 999999 t1).isSome = q := ⟨_, rfl⟩
  rw [hokn]
  have HNW := Lib.hid (num_opt hokn hnn)
  clear hb hokn hn9 hnn
  have hk : kd = 5 := by rw [← HKD.out]; exact hkk
  have HKK := Lib.hid hk
  have b0 : ((kd : Int) == 0) = false := beq_eq_false_iff_ne.2 (by omega)
  have b1 : ((kd : Int) == 1) = false := beq_eq_false_iff_ne.2 (by omega)
  have b4 : ((kd : Int) == 4) = false := beq_eq_false_iff_ne.2 (by omega)
  have b5 : ((kd : Int) == 5) = true := by rw [hk]; rfl
  have b10 : ((kd : Int) == 10) = false := beq_eq_false_iff_ne.2 (by omega)
  have HK := Lib.hid hkk
  clear hk hkk
  by_cases hr1 : rl = 1
  · obtain ⟨t2, rfl⟩ : ∃ t2, r = [t2] := by
      have h := HRL.out
      rw [hr1] at h
      match r, h with
      | [x], _ => exact ⟨x, rfl⟩
    have l2 : ((rl : Int) + 2 == 2) = false := beq_eq_false_iff_ne.2 (by omega)
    have l3 : ((rl : Int) + 2 == 3) = true := by rw [hr1]; rfl
    have hge3 : (2 : Int) < (rl : Int) + 2 := by omega
    obtain ⟨b3, o3, e3, hc2⟩ := HCS.out 2 (by simp)
    simp only [Option.some.injEq, Addr.mk.injEq, and_true] at e3
    obtain ⟨rfl, rfl⟩ := e3
    have HC2 : Hid (w.cell? ⟨bb, off + 2, none⟩ = some (.string (str t2))) := Lib.hid hc2
    have HT2 : Hid (t2.length ≤ 4294967280) := Lib.hid (HF.out.2 _ (by simp))
    clear hr1 hc2
    have q12 := cell_below HC2.out H.out.bl
    obtain ⟨q0, q1, q2, q3, q4, q5, q6, q7, q8, q9, q10, fq⟩ := H.out.qf
    go_upto_region 21 with fail
    clear q12
    replace H := Lib.hid ((H.out).s5 (.string (str t2)))
    generalize (w4.setCell ⟨w.heap.size + 1, 5, none⟩ (.string (str t2))) = w5 at H ⊢
    clear q0 q1 q2 q3 q4 q5 q6 q7 q8 q9 q10 fq
    obtain ⟨nb, hnb⟩ : ∃ q, nameB t2 = q := ⟨_, rfl⟩
    have HNB : Hid (nameS (str t2) = nb) := Lib.hid hnb
    have HNM : Hid ((str t2).size ≤ maxLen) := Lib.hid (by rw [str_size]; have := HT2.out; unfold maxLen; omega)
    have HEV : Hid (evOf [t0, t1, t2] = if (okn && nb) = true then some ⟨5, n, 0, 0, [], ⟨t2, 0, 0, [], [], false⟩⟩ else none) := Lib.hid (by
      rw [ev_three HK.out (by decide) HNW.out, ← hnb]
      cases okn <;> cases nameB t2 <;> rfl)
    clear hnb
    have q12 := cell_below HC2.out H.out.bl
    obtain ⟨q0, q1, q2, q3, q4, q5, q6, q7, q8, q9, q10, fq⟩ := H.out.qf
    go_wp2_with fail
    clear q12
    clear q0 q1 q2 q3 q4 q5 q6 q7 q8 q9 q10 fq
    refine (rname_is HNM.out HNB.out w5).mono ?_
    rintro e w6 ⟨rfl, hb⟩
    replace H := Lib.hid (H.out.call hb)
    clear hb
    cases nb
    · obtain ⟨q0, q1, q2, q3, q4, q5, q6, q7, q8, q9, q10, fq⟩ := H.out.qf
      go_upto_region 28 with fail
      replace H := Lib.hid ((H.out).s1 (.int .i64 n))
      generalize (w6.setCell ⟨w.heap.size + 1, 1, none⟩ (.int .i64 n)) = w9 at H ⊢
      clear q0 q1 q2 q3 q4 q5 q6 q7 q8 q9 q10 fq
      cases okn
      · obtain ⟨q0, q1, q2, q3, q4, q5, q6, q7, q8, q9, q10, fq⟩ := H.out.qf
        obtain ⟨z0, z1, z2, z3, z4, z5, z6, z7, z8, z9, z10, fz⟩ := H.out.zf
        go_wp2
        have hev : evOf [t0, t1, t2] = none := by simpa using HEV.out
        exact rread_leaf (kd := kd) (S := ⟨n, 0, 0, [], ⟨t2, 0, 0, [], [], false⟩⟩) H.out rfl rfl rfl rfl rfl rfl rfl (by rw [hev]; rfl) (fun ev h => by rw [hev] at h; cases h)
      · obtain ⟨q0, q1, q2, q3, q4, q5, q6, q7, q8, q9, q10, fq⟩ := H.out.qf
        obtain ⟨z0, z1, z2, z3, z4, z5, z6, z7, z8, z9, z10, fz⟩ := H.out.zf
        go_wp2
        have hev : evOf [t0, t1, t2] = none := by simpa using HEV.out
        exact rread_leaf (kd := kd) (S := ⟨n, 0, 0, [], ⟨t2, 0, 0, [], [], false⟩⟩) H.out rfl rfl rfl rfl rfl rfl rfl (by rw [hev]; rfl) (fun ev h => by rw [hev] at h; cases h)
    · obtain ⟨q0, q1, q2, q3, q4, q5, q6, q7, q8, q9, q10, fq⟩ := H.out.qf
      go_upto_region 28 with fail
      replace H := Lib.hid ((H.out).s1 (.int .i64 n))
      generalize (w6.setCell ⟨w.heap.size + 1, 1, none⟩ (.int .i64 n)) = w9 at H ⊢
      clear q0 q1 q2 q3 q4 q5 q6 q7 q8 q9 q10 fq
      cases okn
      · obtain ⟨q0, q1, q2, q3, q4, q5, q6, q7, q8, q9, q10, fq⟩ := H.out.qf
        obtain ⟨z0, z1, z2, z3, z4, z5, z6, z7, z8, z9, z10, fz⟩ := H.out.zf
        go_wp2
        have hev : evOf [t0, t1, t2] = none := by simpa using HEV.out
        exact rread_leaf (kd := kd) (S := ⟨n, 0, 0, [], ⟨t2, 0, 0, [], [], false⟩⟩) H.out rfl rfl rfl rfl rfl rfl rfl (by rw [hev]; rfl) (fun ev h => by rw [hev] at h; cases h)
      · obtain ⟨q0, q1, q2, q3, q4, q5, q6, q7, q8, q9, q10, fq⟩ := H.out.qf
        obtain ⟨z0, z1, z2, z3, z4, z5, z6, z7, z8, z9, z10, fz⟩ := H.out.zf
        go_wp2
        have hev : evOf [t0, t1, t2] = some ⟨5, n, 0, 0, [], ⟨t2, 0, 0, [], [], false⟩⟩ := by simpa using HEV.out
        exact rread_leaf (kd := kd) (S := ⟨n, 0, 0, [], ⟨t2, 0, 0, [], [], false⟩⟩) H.out rfl rfl rfl rfl rfl rfl rfl (by rw [hev]; rfl) (fun ev h => by rw [hev] at h; cases h; exact ⟨HKK.out.symm, rfl⟩)
  · have HEV := Lib.hid (ev_not3 (t1 := t1) (r := r) HK.out (by decide) (by rw [HRL.out]; exact hr1))
    have l3 : ((rl : Int) + 2 == 3) = false := beq_eq_false_iff_ne.2 (by omega)
    obtain ⟨l2b, l2⟩ : ∃ q, ((rl : Int) + 2 == 2) = q := ⟨_, rfl⟩
    clear hr1
    cases l2b
    · obtain ⟨q0, q1, q2, q3, q4, q5, q6, q7, q8, q9, q10, fq⟩ := H.out.qf
      go_upto_region 28 with fail
      replace H := Lib.hid ((H.out).s1 (.int .i64 n))
      generalize (w4.setCell ⟨w.heap.size + 1, 1, none⟩ (.int .i64 n)) = w9 at H ⊢
      clear q0 q1 q2 q3 q4 q5 q6 q7 q8 q9 q10 fq
      cases okn
      · obtain ⟨q0, q1, q2, q3, q4, q5, q6, q7, q8, q9, q10, fq⟩ := H.out.qf
        obtain ⟨z0, z1, z2, z3, z4, z5, z6, z7, z8, z9, z10, fz⟩ := H.out.zf
        go_wp2
        have hev : evOf (t0 :: t1 :: r) = none := by simpa using HEV.out
        exact rread_leaf (kd := kd) (S := ⟨n, 0, 0, [], noNode⟩) H.out rfl rfl rfl rfl rfl rfl rfl (by rw [hev]; rfl) (fun ev h => by rw [hev] at h; cases h)
      · obtain ⟨q0, q1, q2, q3, q4, q5, q6, q7, q8, q9, q10, fq⟩ := H.out.qf
        obtain ⟨z0, z1, z2, z3, z4, z5, z6, z7, z8, z9, z10, fz⟩ := H.out.zf
        go_wp2
        have hev : evOf (t0 :: t1 :: r) = none := by simpa using HEV.out
        exact rread_leaf (kd := kd) (S := ⟨n, 0, 0, [], noNode⟩) H.out rfl rfl rfl rfl rfl rfl rfl (by rw [hev]; rfl) (fun ev h => by rw [hev] at h; cases h)
    · obtain ⟨q0, q1, q2, q3, q4, q5, q6, q7, q8, q9, q10, fq⟩ := H.out.qf
      go_upto_region 28 with fail
      replace H := Lib.hid ((H.out).s1 (.int .i64 n))
      generalize (w4.setCell ⟨w.heap.size + 1, 1, none⟩ (.int .i64 n)) = w9 at H ⊢
      clear q0 q1 q2 q3 q4 q5 q6 q7 q8 q9 q10 fq
      cases okn
      · obtain ⟨q0, q1, q2, q3, q4, q5, q6, q7, q8, q9, q10, fq⟩ := H.out.qf
        obtain ⟨z0, z1, z2, z3, z4, z5, z6, z7, z8, z9, z10, fz⟩ := H.out.zf
        go_wp2
        have hev : evOf (t0 :: t1 :: r) = none := by simpa using HEV.out
        exact rread_leaf (kd := kd) (S := ⟨n, 0, 0, [], noNode⟩) H.out rfl rfl rfl rfl rfl rfl rfl (by rw [hev]; rfl) (fun ev h => by rw [hev] at h; cases h)
      · obtain ⟨q0, q1, q2, q3, q4, q5, q6, q7, q8, q9, q10, fq⟩ := H.out.qf
        obtain ⟨z0, z1, z2, z3, z4, z5, z6, z7, z8, z9, z10, fz⟩ := H.out.zf
        go_wp2
        have hev : evOf (t0 :: t1 :: r) = none := by simpa using HEV.out
        exact rread_leaf (kd := kd) (S := ⟨n, 0, 0, [], noNode⟩) H.out rfl rfl rfl rfl rfl rfl rfl (by rw [hev]; rfl) (fun ev h => by rw [hev] at h; cases h)
set_option maxHeartbeats 32000000 in
set_option maxRecDepth 1000000 in
theorem rread_k10 (v : Value) (t0 t1 : List UInt8) (r : List (List UInt8)) (w : World) (hr : RowsC w v (t0 :: t1 :: r)) (hf : few (t0 :: t1 :: r)) (hkk : kindOf t0 = 10) : Calls Tryz.prog 24 #[v] w (RreadPost (t0 :: t1 :: r) w) := by
  obtain ⟨a, c, rfl, hwl, hcap, hcs⟩ := hr
  have HCAP := Lib.hid hcap
  have HF := Lib.hid hf
  have HCS := Lib.hid hcs
  clear hcap hf hcs
  have h2 : ¬ (t0 :: t1 :: r).length < 2 := by simp
  obtain ⟨rl, hrl⟩ : ∃ rl, r.length = rl := ⟨_, rfl⟩
  have hlen : (t0 :: t1 :: r).length = rl + 2 := by simp [hrl]
  rw [hlen] at hwl h2 ⊢
  have HRL := Lib.hid hrl
  have HLEN := Lib.hid hlen
  have hlt2 : ¬ (rl : Int) + 2 < 2 := by omega
  have hge1 : (0 : Int) < (rl : Int) + 2 := by omega
  have hge2 : (1 : Int) < (rl : Int) + 2 := by omega
  obtain ⟨bb, off, rfl, hc0⟩ := HCS.out 0 (by simp)
  obtain ⟨b2, o2, e2, hc1⟩ := HCS.out 1 (by simp)
  simp only [Option.some.injEq, Addr.mk.injEq, and_true] at e2
  obtain ⟨rfl, rfl⟩ := e2
  have hc0 : w.cell? ⟨bb, off, none⟩ = some (.string (str t0)) := hc0
  have hc1 : w.cell? ⟨bb, off + 1, none⟩ = some (.string (str t1)) := hc1
  have HC1 := Lib.hid hc1
  have HT1 : Hid (t1.length ≤ 4294967280) := Lib.hid (HF.out.2 _ (by simp))
  have q00 : ∀ o o', ((w.alloc o).alloc o').cell? ⟨bb, off, none⟩ = some (.string (str t0)) := fun o o' => cell_below hc0 (below_alloc' (below_alloc' (Below.refl _ _) _) _)
  clear hrl hlen hc0 hc1 h2
  go_enter Tryz.func24, Tryz.ntmps24
  go_wp2_with fail
  have H := Lib.hid (two_new w)
  generalize World.alloc (World.alloc w _) _ = w1 at H ⊢
  refine (rkind_any t0 w1).mono ?_
  rintro e w2 ⟨rfl, hb⟩
  replace H := Lib.hid (H.out.call hb)
  obtain ⟨kd, hkd⟩ : ∃ kd, kindOf t0 = kd := ⟨_, rfl⟩
  rw [hkd]
  have HKD := Lib.hid hkd
  have hk11 : kd ≤ 11 := by
    by_cases h : kd = 0
    · omega
    · have := kindOf_inv (w := t0) (by omega)
      omega
  clear hb q00 hkd
  have q11 : ∀ u, (w2.setCell ⟨w.heap.size + 1, 0, none⟩ u).cell? ⟨bb, off + 1, none⟩ = some (.string (str t1)) := fun u => cell_below HC1.out ⟨(H.out.s0 u).bl.os, (H.out.s0 u).bl.tape, (H.out.s0 u).bl.output, (H.out.s0 u).bl.size, (H.out.s0 u).bl.block⟩
  obtain ⟨q0, q1, q2, q3, q4, q5, q6, q7, q8, q9, q10, fq⟩ := H.out.qf
  go_wp2_with fail
  clear q11
  replace H := Lib.hid ((H.out).s0 (.int .i64 kd))
  generalize (w2.setCell ⟨w.heap.size + 1, 0, none⟩ (.int .i64 kd)) = w3 at H ⊢
  clear q0 q1 q2 q3 q4 q5 q6 q7 q8 q9 q10 fq
  refine (rdnumber_any t1 999999 (by decide) HT1.out w3).mono ?_
  rintro e w4 ⟨n, rfl, hn9, hnn, hb⟩
  replace H := Lib.hid (H.out.call hb)
  obtain ⟨okn, hokn⟩ : ∃ q, (numW 999999 t1).isSome = q := ⟨_, rfl⟩
  rw [hokn]
  have HNW := Lib.hid (num_opt hokn hnn)
  clear hb hokn hn9 hnn
  have hk : kd = 10 := by rw [← HKD.out]; exact hkk
  have HKK := Lib.hid hk
  have b0 : ((kd : Int) == 0) = false := beq_eq_false_iff_ne.2 (by omega)
  have b1 : ((kd : Int) == 1) = false := beq_eq_false_iff_ne.2 (by omega)
  have b4 : ((kd : Int) == 4) = false := beq_eq_false_iff_ne.2 (by omega)
  have b5 : ((kd : Int) == 5) = false := beq_eq_false_iff_ne.2 (by omega)
  have b10 : ((kd : Int) == 10) = true := by rw [hk]; rfl
  have HK := Lib.hid hkk
  clear hk hkk
  by_cases hr1 : rl = 1
  · obtain ⟨t2, rfl⟩ : ∃ t2, r = [t2] := by
      have h := HRL.out
      rw [hr1] at h
      match r, h with
      | [x], _ => exact ⟨x, rfl⟩
    have l2 : ((rl : Int) + 2 == 2) = false := beq_eq_false_iff_ne.2 (by omega)
    have l3 : ((rl : Int) + 2 == 3) = true := by rw [hr1]; rfl
    have hge3 : (2 : Int) < (rl : Int) + 2 := by omega
    obtain ⟨b3, o3, e3, hc2⟩ := HCS.out 2 (by simp)
    simp only [Option.some.injEq, Addr.mk.injEq, and_true] at e3
    obtain ⟨rfl, rfl⟩ := e3
    have HC2 : Hid (w.cell? ⟨bb, off + 2, none⟩ = some (.string (str t2))) := Lib.hid hc2
    have HT2 : Hid (t2.length ≤ 4294967280) := Lib.hid (HF.out.2 _ (by simp))
    clear hr1 hc2
    have q12 := cell_below HC2.out H.out.bl
    obtain ⟨q0, q1, q2, q3, q4, q5, q6, q7, q8, q9, q10, fq⟩ := H.out.qf
    go_wp2_with fail
    clear q12
    clear q0 q1 q2 q3 q4 q5 q6 q7 q8 q9 q10 fq
    refine (rdnumber_any t2 999999 (by decide) HT2.out w4).mono ?_
    rintro e w5 ⟨m, rfl, hm9, hmm, hb⟩
    replace H := Lib.hid (H.out.call hb)
    clear hb
    obtain ⟨okm, hokm⟩ : ∃ q, (numW 999999 t2).isSome = q := ⟨_, rfl⟩
    rw [hokm]
    have HEV : Hid (evOf [t0, t1, t2] = if (okn && okm) = true then some ⟨10, n, m, 0, [], noNode⟩ else none) := Lib.hid (by
      rw [ev_three HK.out (by decide) HNW.out, num_opt hokm hmm]
      cases okn <;> cases okm <;> rfl)
    clear hokm hm9 hmm
    obtain ⟨q0, q1, q2, q3, q4, q5, q6, q7, q8, q9, q10, fq⟩ := H.out.qf
    go_upto_region 25 with fail
    replace H := Lib.hid ((H.out).s2 (.int .i64 m))
    generalize (w5.setCell ⟨w.heap.size + 1, 2, none⟩ (.int .i64 m)) = w6 at H ⊢
    clear q0 q1 q2 q3 q4 q5 q6 q7 q8 q9 q10 fq
    cases okm
    · obtain ⟨q0, q1, q2, q3, q4, q5, q6, q7, q8, q9, q10, fq⟩ := H.out.qf
      go_upto_region 28 with fail
      replace H := Lib.hid ((H.out).s1 (.int .i64 n))
      generalize (w6.setCell ⟨w.heap.size + 1, 1, none⟩ (.int .i64 n)) = w9 at H ⊢
      clear q0 q1 q2 q3 q4 q5 q6 q7 q8 q9 q10 fq
      cases okn
      · obtain ⟨q0, q1, q2, q3, q4, q5, q6, q7, q8, q9, q10, fq⟩ := H.out.qf
        obtain ⟨z0, z1, z2, z3, z4, z5, z6, z7, z8, z9, z10, fz⟩ := H.out.zf
        go_wp2
        have hev : evOf [t0, t1, t2] = none := by simpa using HEV.out
        exact rread_leaf (kd := kd) (S := ⟨n, m, 0, [], noNode⟩) H.out rfl rfl rfl rfl rfl rfl rfl (by rw [hev]; rfl) (fun ev h => by rw [hev] at h; cases h)
      · obtain ⟨q0, q1, q2, q3, q4, q5, q6, q7, q8, q9, q10, fq⟩ := H.out.qf
        obtain ⟨z0, z1, z2, z3, z4, z5, z6, z7, z8, z9, z10, fz⟩ := H.out.zf
        go_wp2
        have hev : evOf [t0, t1, t2] = none := by simpa using HEV.out
        exact rread_leaf (kd := kd) (S := ⟨n, m, 0, [], noNode⟩) H.out rfl rfl rfl rfl rfl rfl rfl (by rw [hev]; rfl) (fun ev h => by rw [hev] at h; cases h)
    · obtain ⟨q0, q1, q2, q3, q4, q5, q6, q7, q8, q9, q10, fq⟩ := H.out.qf
      go_upto_region 28 with fail
      replace H := Lib.hid ((H.out).s1 (.int .i64 n))
      generalize (w6.setCell ⟨w.heap.size + 1, 1, none⟩ (.int .i64 n)) = w9 at H ⊢
      clear q0 q1 q2 q3 q4 q5 q6 q7 q8 q9 q10 fq
      cases okn
      · obtain ⟨q0, q1, q2, q3, q4, q5, q6, q7, q8, q9, q10, fq⟩ := H.out.qf
        obtain ⟨z0, z1, z2, z3, z4, z5, z6, z7, z8, z9, z10, fz⟩ := H.out.zf
        go_wp2
        have hev : evOf [t0, t1, t2] = none := by simpa using HEV.out
        exact rread_leaf (kd := kd) (S := ⟨n, m, 0, [], noNode⟩) H.out rfl rfl rfl rfl rfl rfl rfl (by rw [hev]; rfl) (fun ev h => by rw [hev] at h; cases h)
      · obtain ⟨q0, q1, q2, q3, q4, q5, q6, q7, q8, q9, q10, fq⟩ := H.out.qf
        obtain ⟨z0, z1, z2, z3, z4, z5, z6, z7, z8, z9, z10, fz⟩ := H.out.zf
        go_wp2
        have hev : evOf [t0, t1, t2] = some ⟨10, n, m, 0, [], noNode⟩ := by simpa using HEV.out
        exact rread_leaf (kd := kd) (S := ⟨n, m, 0, [], noNode⟩) H.out rfl rfl rfl rfl rfl rfl rfl (by rw [hev]; rfl) (fun ev h => by rw [hev] at h; cases h; exact ⟨HKK.out.symm, rfl⟩)
  · have HEV := Lib.hid (ev_not3 (t1 := t1) (r := r) HK.out (by decide) (by rw [HRL.out]; exact hr1))
    have l3 : ((rl : Int) + 2 == 3) = false := beq_eq_false_iff_ne.2 (by omega)
    obtain ⟨l2b, l2⟩ : ∃ q, ((rl : Int) + 2 == 2) = q := ⟨_, rfl⟩
    clear hr1
    cases l2b
    · obtain ⟨q0, q1, q2, q3, q4, q5, q6, q7, q8, q9, q10, fq⟩ := H.out.qf
      go_upto_region 28 with fail
      replace H := Lib.hid ((H.out).s1 (.int .i64 n))
      generalize (w4.setCell ⟨w.heap.size + 1, 1, none⟩ (.int .i64 n)) = w9 at H ⊢
      clear q0 q1 q2 q3 q4 q5 q6 q7 q8 q9 q10 fq
      cases okn
      · obtain ⟨q0, q1, q2, q3, q4, q5, q6, q7, q8, q9, q10, fq⟩ := H.out.qf
        obtain ⟨z0, z1, z2, z3, z4, z5, z6, z7, z8, z9, z10, fz⟩ := H.out.zf
        go_wp2
        have hev : evOf (t0 :: t1 :: r) = none := by simpa using HEV.out
        exact rread_leaf (kd := kd) (S := ⟨n, 0, 0, [], noNode⟩) H.out rfl rfl rfl rfl rfl rfl rfl (by rw [hev]; rfl) (fun ev h => by rw [hev] at h; cases h)
      · obtain ⟨q0, q1, q2, q3, q4, q5, q6, q7, q8, q9, q10, fq⟩ := H.out.qf
        obtain ⟨z0, z1, z2, z3, z4, z5, z6, z7, z8, z9, z10, fz⟩ := H.out.zf
        go_wp2
        have hev : evOf (t0 :: t1 :: r) = none := by simpa using HEV.out
        exact rread_leaf (kd := kd) (S := ⟨n, 0, 0, [], noNode⟩) H.out rfl rfl rfl rfl rfl rfl rfl (by rw [hev]; rfl) (fun ev h => by rw [hev] at h; cases h)
    · obtain ⟨q0, q1, q2, q3, q4, q5, q6, q7, q8, q9, q10, fq⟩ := H.out.qf
      go_upto_region 28 with fail
      replace H := Lib.hid ((H.out).s1 (.int .i64 n))
      generalize (w4.setCell ⟨w.heap.size + 1, 1, none⟩ (.int .i64 n)) = w9 at H ⊢
      clear q0 q1 q2 q3 q4 q5 q6 q7 q8 q9 q10 fq
      cases okn
      · obtain ⟨q0, q1, q2, q3, q4, q5, q6, q7, q8, q9, q10, fq⟩ := H.out.qf
        obtain ⟨z0, z1, z2, z3, z4, z5, z6, z7, z8, z9, z10, fz⟩ := H.out.zf
        go_wp2
        have hev : evOf (t0 :: t1 :: r) = none := by simpa using HEV.out
        exact rread_leaf (kd := kd) (S := ⟨n, 0, 0, [], noNode⟩) H.out rfl rfl rfl rfl rfl rfl rfl (by rw [hev]; rfl) (fun ev h => by rw [hev] at h; cases h)
      · obtain ⟨q0, q1, q2, q3, q4, q5, q6, q7, q8, q9, q10, fq⟩ := H.out.qf
        obtain ⟨z0, z1, z2, z3, z4, z5, z6, z7, z8, z9, z10, fz⟩ := H.out.zf
        go_wp2
        have hev : evOf (t0 :: t1 :: r) = none := by simpa using HEV.out
        exact rread_leaf (kd := kd) (S := ⟨n, 0, 0, [], noNode⟩) H.out rfl rfl rfl rfl rfl rfl rfl (by rw [hev]; rfl) (fun ev h => by rw [hev] at h; cases h)
set_option maxHeartbeats 32000000 in
set_option maxRecDepth 1000000 in
theorem rread_ko (v : Value) (t0 t1 : List UInt8) (r : List (List UInt8)) (w : World) (hr : RowsC w v (t0 :: t1 :: r)) (hf : few (t0 :: t1 :: r)) (hkk : ∀ k, k = 0 ∨ k = 1 ∨ k = 4 ∨ k = 5 ∨ k = 10 → kindOf t0 ≠ k) : Calls Tryz.prog 24 #[v] w (RreadPost (t0 :: t1 :: r) w) := by
  obtain ⟨a, c, rfl, hwl, hcap, hcs⟩ := hr
  have HCAP := Lib.hid hcap
  have HF := Lib.hid hf
  have HCS := Lib.hid hcs
  clear hcap hf hcs
  have h2 : ¬ (t0 :: t1 :: r).length < 2 := by simp
  obtain ⟨rl, hrl⟩ : ∃ rl, r.length = rl := ⟨_, rfl⟩
  have hlen : (t0 :: t1 :: r).length = rl + 2 := by simp [hrl]
  rw [hlen] at hwl h2 ⊢
  have HRL := Lib.hid hrl
  have HLEN := Lib.hid hlen
  have hlt2 : ¬ (rl : Int) + 2 < 2 := by omega
  have hge1 : (0 : Int) < (rl : Int) + 2 := by omega
  have hge2 : (1 : Int) < (rl : Int) + 2 := by omega
  obtain ⟨bb, off, rfl, hc0⟩ := HCS.out 0 (by simp)
  obtain ⟨b2, o2, e2, hc1⟩ := HCS.out 1 (by simp)
  simp only [Option.some.injEq, Addr.mk.injEq, and_true] at e2
  obtain ⟨rfl, rfl⟩ := e2
  have hc0 : w.cell? ⟨bb, off, none⟩ = some (.string (str t0)) := hc0
  have hc1 : w.cell? ⟨bb, off + 1, none⟩ = some (.string (str t1)) := hc1
  have HC1 := Lib.hid hc1
  have HT1 : Hid (t1.length ≤ 4294967280) := Lib.hid (HF.out.2 _ (by simp))
  have q00 : ∀ o o', ((w.alloc o).alloc o').cell? ⟨bb, off, none⟩ = some (.string (str t0)) := fun o o' => cell_below hc0 (below_alloc' (below_alloc' (Below.refl _ _) _) _)
  clear hrl hlen hc0 hc1 h2
  go_enter Tryz.func24, Tryz.ntmps24
  go_wp2_with fail
  have H := Lib.hid (two_new w)
  generalize World.alloc (World.alloc w _) _ = w1 at H ⊢
  refine (rkind_any t0 w1).mono ?_
  rintro e w2 ⟨rfl, hb⟩
  replace H := Lib.hid (H.out.call hb)
  obtain ⟨kd, hkd⟩ : ∃ kd, kindOf t0 = kd := ⟨_, rfl⟩
  rw [hkd]
  have HKD := Lib.hid hkd
  have hk11 : kd ≤ 11 := by
    by_cases h : kd = 0
    · omega
    · have := kindOf_inv (w := t0) (by omega)
      omega
  clear hb q00 hkd
  have q11 : ∀ u, (w2.setCell ⟨w.heap.size + 1, 0, none⟩ u).cell? ⟨bb, off + 1, none⟩ = some (.string (str t1)) := fun u => cell_below HC1.out ⟨(H.out.s0 u).bl.os, (H.out.s0 u).bl.tape, (H.out.s0 u).bl.output, (H.out.s0 u).bl.size, (H.out.s0 u).bl.block⟩
  obtain ⟨q0, q1, q2, q3, q4, q5, q6, q7, q8, q9, q10, fq⟩ := H.out.qf
  go_wp2_with fail
  clear q11
  replace H := Lib.hid ((H.out).s0 (.int .i64 kd))
  generalize (w2.setCell ⟨w.heap.size + 1, 0, none⟩ (.int .i64 kd)) = w3 at H ⊢
  clear q0 q1 q2 q3 q4 q5 q6 q7 q8 q9 q10 fq
  refine (rdnumber_any t1 999999 (by decide) HT1.out w3).mono ?_
  rintro e w4 ⟨n, rfl, hn9, hnn, hb⟩
  replace H := Lib.hid (H.out.call hb)
  obtain ⟨okn, hokn⟩ : ∃ q, (numW 999999 t1).isSome = q := ⟨_, rfl⟩
  rw [hokn]
  have HNW := Lib.hid (num_opt hokn hnn)
  clear hb hokn hn9 hnn
  have hk : kd ≠ 0 := by rw [← HKD.out]; exact hkk 0 (by omega)
  have h1 : kd ≠ 1 := by rw [← HKD.out]; exact hkk 1 (by omega)
  have h4 : kd ≠ 4 := by rw [← HKD.out]; exact hkk 4 (by omega)
  have h5 : kd ≠ 5 := by rw [← HKD.out]; exact hkk 5 (by omega)
  have h10 : kd ≠ 10 := by rw [← HKD.out]; exact hkk 10 (by omega)
  have b0 : ((kd : Int) == 0) = false := beq_eq_false_iff_ne.2 (by omega)
  have b1 : ((kd : Int) == 1) = false := beq_eq_false_iff_ne.2 (by omega)
  have b4 : ((kd : Int) == 4) = false := beq_eq_false_iff_ne.2 (by omega)
  have b5 : ((kd : Int) == 5) = false := beq_eq_false_iff_ne.2 (by omega)
  have b10 : ((kd : Int) == 10) = false := beq_eq_false_iff_ne.2 (by omega)
  obtain ⟨l2b, l2⟩ : ∃ q, ((rl : Int) + 2 == 2) = q := ⟨_, rfl⟩
  have hlb : decide (r.length = 0) = l2b := by
    rw [← l2, HRL.out]
    by_cases h : rl = 0
    · subst h; rfl
    · rw [decide_eq_false h]; exact (beq_eq_false_iff_ne.2 (by omega)).symm
  have HEV : Hid (evOf (t0 :: t1 :: r) = if (okn && l2b) = true then some ⟨kd, n, 0, 0, [], noNode⟩ else none) := Lib.hid (by rw [ev_two HKD.out hk h1 h4 h5 h10 HNW.out, hlb])
  clear hlb hk h1 h4 h5 h10
  cases l2b
  · obtain ⟨q0, q1, q2, q3, q4, q5, q6, q7, q8, q9, q10, fq⟩ := H.out.qf
    go_upto_region 28 with fail
    replace H := Lib.hid ((H.out).s1 (.int .i64 n))
    generalize (w4.setCell ⟨w.heap.size + 1, 1, none⟩ (.int .i64 n)) = w9 at H ⊢
    clear q0 q1 q2 q3 q4 q5 q6 q7 q8 q9 q10 fq
    cases okn
    · obtain ⟨q0, q1, q2, q3, q4, q5, q6, q7, q8, q9, q10, fq⟩ := H.out.qf
      obtain ⟨z0, z1, z2, z3, z4, z5, z6, z7, z8, z9, z10, fz⟩ := H.out.zf
      go_wp2
      have hev : evOf (t0 :: t1 :: r) = none := by simpa using HEV.out
      exact rread_leaf (kd := kd) (S := ⟨n, 0, 0, [], noNode⟩) H.out rfl rfl rfl rfl rfl rfl rfl (by rw [hev]; rfl) (fun ev h => by rw [hev] at h; cases h)
    · obtain ⟨q0, q1, q2, q3, q4, q5, q6, q7, q8, q9, q10, fq⟩ := H.out.qf
      obtain ⟨z0, z1, z2, z3, z4, z5, z6, z7, z8, z9, z10, fz⟩ := H.out.zf
      go_wp2
      have hev : evOf (t0 :: t1 :: r) = none := by simpa using HEV.out
      exact rread_leaf (kd := kd) (S := ⟨n, 0, 0, [], noNode⟩) H.out rfl rfl rfl rfl rfl rfl rfl (by rw [hev]; rfl) (fun ev h => by rw [hev] at h; cases h)
  · obtain ⟨q0, q1, q2, q3, q4, q5, q6, q7, q8, q9, q10, fq⟩ := H.out.qf
    go_upto_region 28 with fail
    replace H := Lib.hid ((H.out).s1 (.int .i64 n))
    generalize (w4.setCell ⟨w.heap.size + 1, 1, none⟩ (.int .i64 n)) = w9 at H ⊢
    clear q0 q1 q2 q3 q4 q5 q6 q7 q8 q9 q10 fq
    cases okn
    · obtain ⟨q0, q1, q2, q3, q4, q5, q6, q7, q8, q9, q10, fq⟩ := H.out.qf
      obtain ⟨z0, z1, z2, z3, z4, z5, z6, z7, z8, z9, z10, fz⟩ := H.out.zf
      go_wp2
      have hev : evOf (t0 :: t1 :: r) = none := by simpa using HEV.out
      exact rread_leaf (kd := kd) (S := ⟨n, 0, 0, [], noNode⟩) H.out rfl rfl rfl rfl rfl rfl rfl (by rw [hev]; rfl) (fun ev h => by rw [hev] at h; cases h)
    · obtain ⟨q0, q1, q2, q3, q4, q5, q6, q7, q8, q9, q10, fq⟩ := H.out.qf
      obtain ⟨z0, z1, z2, z3, z4, z5, z6, z7, z8, z9, z10, fz⟩ := H.out.zf
      go_wp2
      have hev : evOf (t0 :: t1 :: r) = some ⟨kd, n, 0, 0, [], noNode⟩ := by simpa using HEV.out
      exact rread_leaf (kd := kd) (S := ⟨n, 0, 0, [], noNode⟩) H.out rfl rfl rfl rfl rfl rfl rfl (by rw [hev]; rfl) (fun ev h => by rw [hev] at h; cases h; exact ⟨rfl, rfl⟩)
set_option maxHeartbeats 32000000 in
set_option maxRecDepth 1000000 in
theorem rread_any (v : Value) (ws : List (List UInt8)) (w : World) (hr : RowsC w v ws) (hf : few ws) : Calls Tryz.prog 24 #[v] w (RreadPost ws w) := by
  obtain ⟨a, c, rfl, hwl, hcap, hcs⟩ := hr
  have HCAP := Lib.hid hcap
  have HF := Lib.hid hf
  have HCS := Lib.hid hcs
  clear hcap hf hcs
  by_cases h2 : ws.length < 2
  · have hno : evOf ws = none := by
      match ws, h2 with
      | [], _ => rfl
      | [x], _ => show evArgs (kindOf x) [] = none; unfold evArgs; simp
      | _ :: _ :: _, h => simp only [List.length_cons] at h; omega
    have h2' : (ws.length : Int) < 2 := by omega
    have HNO := Lib.hid hno
    clear hno h2
    go_enter Tryz.func24, Tryz.ntmps24
    go_upto_region 3 with fail
    have H := Lib.hid (two_new w)
    generalize World.alloc (World.alloc w _) _ = w1 at H ⊢
    obtain ⟨q0, q1, q2, q3, q4, q5, q6, q7, q8, q9, q10, fq⟩ := H.out.qf
    obtain ⟨z0, z1, z2, z3, z4, z5, z6, z7, z8, z9, z10, fz⟩ := H.out.zf
    go_wp2
    have hev := HNO.out
    exact rread_leaf (kd := 0) (S := ⟨0, 0, 0, [], noNode⟩) H.out rfl rfl rfl rfl rfl rfl rfl (by rw [hev]; rfl) (fun ev h => by rw [hev] at h; cases h)
  obtain ⟨t0, t1, r, rfl⟩ : ∃ t0 t1 r, ws = t0 :: t1 :: r := by
    match ws, h2 with
    | [], h => simp at h
    | [_], h => simp at h
    | x :: y :: z, _ => exact ⟨x, y, z, rfl⟩
  have hr : RowsC w (.slice a (t0 :: t1 :: r).length c) (t0 :: t1 :: r) := ⟨a, c, rfl, hwl, HCAP.out, HCS.out⟩
  by_cases h0 : kindOf t0 = 0
  · exact rread_k0 _ t0 t1 r w hr HF.out h0
  by_cases h1 : kindOf t0 = 1
  · exact rread_k1 _ t0 t1 r w hr HF.out h1
  by_cases h4 : kindOf t0 = 4
  · exact rread_k4 _ t0 t1 r w hr HF.out h4
  by_cases h5 : kindOf t0 = 5
  · exact rread_k5 _ t0 t1 r w hr HF.out h5
  by_cases h10 : kindOf t0 = 10
  · exact rread_k10 _ t0 t1 r w hr HF.out h10
  exact rread_ko _ t0 t1 r w hr HF.out (fun k hk => by rcases hk with rfl | rfl | rfl | rfl | rfl <;> assumption)
end Go.Proofs.YtikamehjeaoilaaGreatDoor
