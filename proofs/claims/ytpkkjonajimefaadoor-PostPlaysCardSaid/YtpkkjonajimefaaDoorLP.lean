/- PostPlays: the law's walk. -/
import Derived.Test.YtpkkjonajimefaaDoorLs
set_option linter.unusedVariables false
set_option linter.unusedSimpArgs false
namespace Go.Proofs.YtpkkjonajimefaaDoor
open Go.RowKit

theorem sent_le {ms l : List MsgM} (h : ms.length ≤ 200) : (sent ms l).length ≤ 200 := by
  rw [sent_eq l ms h, List.length_take]
  omega
theorem takenM_le {ms : List MsgM} {i : Int} (h : ms.length ≤ 200) : (takenM ms i).length ≤ 200 := by
  unfold takenM
  split
  · have := List.length_eraseIdx_le ms i.toNat
    omega
  · exact h
theorem copiedM_le {ms : List MsgM} {i : Int} (h : ms.length ≤ 200) : (copiedM ms i).length ≤ 200 := by
  unfold copiedM
  split
  · simp; omega
  · exact h
theorem atM_few {B : Nat} {w : World} {x : Value} {ms : List MsgM} (h : RefAt B w x ms) (i : Int) : (atM ms i).few := by
  unfold atM
  split
  · obtain ⟨_, _, _, _, _, cc, _, h3⟩ := h
    exact (h3 i.toNat (by omega)).2.2
  · exact noMsg_few

/-- Two messages of the law's own, in one row. -/
theorem two_row {B : Nat} {w : World} {g : Nat} {c1 c2 : List Value} {m1 m2 : MsgM} (h : w.heap[g]? = some (.cells (c1 ++ c2).toArray 26 (0, 0))) (hB : B ≤ g) (h1 : c1.length = 7) (h2 : c2.length = 7) (a1 : MsgAt 0 w (.agg c1.toArray) m1) (a2 : MsgAt 0 w (.agg c2.toArray) m2) (f1 : m1.few) (f2 : m2.few) :
    MsgRow B w (.slice (some ⟨g, 0, none⟩) 2 2) [m1, m2] := by
  refine ⟨fun i => if i = 0 then c1 else c2, ?_, fun i hi => ?_⟩
  · have := own_lit (base := B) (n := 2) (size := 7) h (by simp [h1, h2]) (by decide) hB
    simpa [flat, List.range_succ] using this
  · match i, hi with
    | 0, _ => exact ⟨h1, a1, f1⟩
    | 1, _ => exact ⟨h2, a2, f2⟩

set_option maxHeartbeats 16000000 in
set_option maxRecDepth 100000 in
theorem postPlays_any (vn vp : Value) (ns ps : List Int) (raw : Int) (w : World) (hn : Nums w vn ns) (hp : Nums w vp ps) (ht : Tabs w) : Calls Tryd.prog 5 #[vn, vp, .int .i64 raw] w fun e w' => e = .returned (.bool true) ∧ Below w.heap.size w w' := by
  have HT := Lib.hid ht
  have HNP := Lib.hid hp
  have HNN := Lib.hid hn
  obtain ⟨na, nc, rfl, hnl, _⟩ := hn
  obtain ⟨pa, pc, rfl, _, _⟩ := hp
  clear ht
  go_enter Tryd.func5, Tryd.ntmps5
  go_wp2_with (first | (go_at_call 10; refine (known_any _ HT.out).mono ?_; rintro r w1 ⟨rfl, hb⟩; have HB1 := Lib.hid hb; clear hb) | (go_at_call 15; refine (new_any _).mono ?_; rintro r w2 ⟨b, rfl, hp, hb⟩; have HP2 := Lib.hid (hp.base HB1.out.size); have HB2 := Lib.hid (below_call HB1.out hb); clear hp hb))
  generalize hw3 : World.alloc w2 _ = w3
  have hb3 : Below w2.heap.size w2 w3 := by rw [← hw3]; exact below_alloc' (Below.refl _ _) _
  have z3 : w3.heap[w2.heap.size]? = some (.cells #[.slice none 0 0] 38 (0, 0)) := by rw [← hw3]; exact alloc_at _ _
  clear hw3
  have hx3 : RefAt w.heap.size w3 (.pointer (some ⟨w2.heap.size, 0, none⟩)) [] := ⟨_, _, rfl, HB2.out.size, z3, MsgRow.nil _ _⟩
  have HP3 := Lib.hid (HP2.out.below hb3)
  have HX3 := Lib.hid hx3
  have HB3 := Lib.hid (below_call HB2.out hb3)
  clear hb3 z3 hx3 HP2
  go_loopw [9] (fun i wr => ∃ k : Nat, ∃ ms : List MsgM, i = .int .i64 k ∧ k ≤ 60 ∧ k ≤ ns.length ∧ ms.length ≤ 200 ∧ PostAt w.heap.size wr (.pointer (some ⟨b, 0, none⟩)) ms ∧ RefAt w.heap.size wr (.pointer (some ⟨w2.heap.size, 0, none⟩)) ms ∧ Below w.heap.size w wr) (fun i _ => 60 - (intOf i).toNat)
  case atStart => exact ⟨0, [], rfl, by omega, Nat.zero_le _, by simp, HP3.out, HX3.out, HB3.out⟩
  case round =>
    clear HP3 HX3 HB3
    obtain ⟨k, ms, rfl, hk, hkn, hms, hp, hx, hb⟩ := hrel
    have HP := Lib.hid hp
    have HX := Lib.hid hx
    have HB := Lib.hid hb
    have HMS := Lib.hid hms
    clear hp hx hb
    by_cases hlt : k < ns.length
    · by_cases h60 : k < 60
      · have h60' : (k : Int) < 60 := by omega
        obtain ⟨bb, off, rfl, hcl⟩ : ∃ bb off, na = some ⟨bb, off, none⟩ ∧ wr.cell? ⟨bb, off + k, none⟩ = some (.int .i64 (ns.getD k 0)) := by
          obtain ⟨a', c', e, _, h⟩ := HNN.out
          injection e with e1 e2 e3
          subst e1
          obtain ⟨bb, off, h1, h2⟩ := h k hlt
          exact ⟨bb, off, h1, cell_below h2 HB.out⟩
        obtain ⟨nk, hnk⟩ : ∃ nk, ns.getD k 0 = nk := ⟨_, rfl⟩
        rw [hnk] at hcl
        clear hnk
        have hlen0 : (0 : Int) ≤ ms.length := by omega
        have hlen2 : (ms.length : Int) ≤ 200 := by omega
        have hm0 : (0 : Int) < (ms.length : Int) + 2 := by omega
        have hm1 : (ms.length : Int) + 2 ≤ 4611686018427387904 := by omega
        obtain ⟨r1, hr1⟩ : ∃ r, qd nk 6 % ((ms.length : Int) + 2) = r := ⟨_, rfl⟩
        have hr1a : 0 ≤ r1 := by rw [← hr1]; exact Int.emod_nonneg _ (by omega)
        have hr1b : r1 < 300 := by rw [← hr1]; have := Int.emod_lt_of_pos (qd nk 6) hm0; omega
        obtain ⟨r2, hr2⟩ : ∃ r, qd nk 6 % 29 = r := ⟨_, rfl⟩
        obtain ⟨r3, hr3⟩ : ∃ r, nk % 6 = r := ⟨_, rfl⟩
        have HR1 := Lib.hid hr1
        have HR2 := Lib.hid hr2
        have HR3 := Lib.hid hr3
        have HCL := Lib.hid hcl
        clear hr1 hr2 hr3
        go_wp2_with fail
        refine (refLen_any _ wr _ ms HX.out).mono ?_
        rintro r w7 ⟨rfl, rfl⟩
        go_wp2_with fail
        refine (within12_any (qd nk 6) ((ms.length : Int) + 2) hm0 hm1 _).mono ?_
        rw [HR1.out]
        rintro r w7 ⟨rfl, rfl⟩
        go_wp2_with fail
        refine (within12_any (qd nk 6) 29 (by omega) (by omega) _).mono ?_
        rw [HR2.out]
        rintro r w7 ⟨rfl, rfl⟩
        go_upto_if 47 with fail
        go_cut [11] (fun s11 wx => (∃ a : Int, s11 = .int .i64 a) ∧ wr = wx)
        case first =>
          by_cases h : r2 = 0
          · have hb : (r2 == 0) = true := beq_iff_eq.mpr h
            rw [hb]
            clear h hb
            go_wp2
            go_meet
            exact ⟨⟨_, rfl⟩, rfl⟩
          · have hb : (r2 == 0) = false := beq_eq_false_iff_ne.mpr h
            rw [hb]
            clear h hb
            go_wp2
            go_meet
            exact ⟨⟨_, rfl⟩, rfl⟩
        case rest =>
          obtain ⟨⟨at', rfl⟩, rfl⟩ := hcut
          have hcl := HCL.out
          go_wp2_with fail
          clear hcl
          refine (within12_any nk 6 (by omega) (by omega) _).mono ?_
          rw [HR3.out]
          rintro r w7 ⟨rfl, rfl⟩
          have hr3 : 0 ≤ r3 ∧ r3 < 6 := by
            rw [← HR3.out]
            exact ⟨by omega, by omega⟩
          by_cases h0 : r3 = 0
          · have hb : (r3 == 0) = true := beq_iff_eq.mpr h0
            have HMS' := HMS.out
            have HLN : Hid ((takenM ms at').length ≤ 200) := Lib.hid (takenM_le HMS')
            clear h0 HMS'
            obtain ⟨mj, hmj⟩ : ∃ mj, atM ms at' = mj := ⟨_, rfl⟩
            obtain ⟨bj, hbj⟩ : ∃ bj, decide (0 ≤ at' ∧ at' < (ms.length : Int)) = bj := ⟨_, rfl⟩
            have hpc := take_any w.heap.size wr _ ms HP.out HB.out.size at'
            rw [hbj, hmj] at hpc
            have hxc := fun w2' (hx : RefAt w.heap.size w2' (.pointer (some ⟨w2.heap.size, 0, none⟩)) ms) (h2 : w.heap.size ≤ w2'.heap.size) => refTake_any w.heap.size w2' _ ms hx h2 (by have := HMS.out; omega) at'
            rw [hbj, hmj] at hxc
            have HF : Hid mj.few := Lib.hid (hmj ▸ atM_few HX.out at')
            have HPC := Lib.hid hpc
            have HXC := Lib.hid hxc
            clear hpc hxc hmj hbj
            go_wp2_with fail
            refine HPC.out.mono ?_
            rintro r w5 ⟨v, rfl, hv, hp5, hb5, hs5⟩
            have HV := Lib.hid hv
            obtain ⟨a1, c1, a2, c2, rfl⟩ := msg_agg hv
            have HP5 := Lib.hid hp5
            have HX5 := Lib.hid (HX.out.still (rest_refT hs5))
            have HB5 := Lib.hid (HB.out.trans hb5)
            clear hv hp5 hb5 hs5
            go_wp2_with fail
            generalize hw6 : World.alloc w5 _ = w6
            have hb6 : Below w5.heap.size w5 w6 := by rw [← hw6]; exact below_alloc' (Below.refl _ _) _
            have z6 : w6.heap[w5.heap.size]? = some (.cells #[.int .i64 mj.kind, .int .i64 mj.src, .int .i64 mj.dst, .int .i64 mj.gang, .slice a1 mj.pods.length c1, .slice a2 mj.peers.length c2, .bool mj.yes] 26 (0, 0)) := by rw [← hw6]; exact alloc_at _ _
            clear hw6
            have hB6 := HB5.out.trans (hb6.mono HB5.out.size)
            refine (HXC.out w6 (HX5.out.below hb6) hB6.size).mono ?_
            rintro r w7 ⟨v, rfl, hv, hx7, hb7, hs7⟩
            have HV7 := Lib.hid hv
            obtain ⟨b1, d1, b2, d2, rfl⟩ := msg_agg hv
            have HX7 := Lib.hid hx7
            have HP7 := Lib.hid ((HP5.out.below hb6).still (still_sub hs7 fun e he => by rcases he with rfl | rfl | rfl | rfl | rfl | rfl <;> decide))
            have HB7 := Lib.hid (hB6.trans hb7)
            have HV57 := Lib.hid ((HV.out.still (Still.of_below hb6)).still (still_sub hs7 fun e he => by rcases he with rfl | rfl | rfl <;> decide))
            have z7 := hs7 _ _ _ (by decide) z6
            have c0 : ∀ o, (w7.alloc o).cell? ⟨w5.heap.size, 0, none⟩ = some (.int .i64 mj.kind) := fun o => cell_of_block (block_below z7 (below_alloc' (Below.refl _ _) _)) 0 _ rfl
            have c1' : ∀ o, (w7.alloc o).cell? ⟨w5.heap.size, 1, none⟩ = some (.int .i64 mj.src) := fun o => cell_of_block (block_below z7 (below_alloc' (Below.refl _ _) _)) 1 _ rfl
            have c2' : ∀ o, (w7.alloc o).cell? ⟨w5.heap.size, 2, none⟩ = some (.int .i64 mj.dst) := fun o => cell_of_block (block_below z7 (below_alloc' (Below.refl _ _) _)) 2 _ rfl
            have c3' : ∀ o, (w7.alloc o).cell? ⟨w5.heap.size, 3, none⟩ = some (.int .i64 mj.gang) := fun o => cell_of_block (block_below z7 (below_alloc' (Below.refl _ _) _)) 3 _ rfl
            have c4' : ∀ o, (w7.alloc o).cell? ⟨w5.heap.size, 4, none⟩ = some (.slice a1 mj.pods.length c1) := fun o => cell_of_block (block_below z7 (below_alloc' (Below.refl _ _) _)) 4 _ rfl
            have c5' : ∀ o, (w7.alloc o).cell? ⟨w5.heap.size, 5, none⟩ = some (.slice a2 mj.peers.length c2) := fun o => cell_of_block (block_below z7 (below_alloc' (Below.refl _ _) _)) 5 _ rfl
            have c6' : ∀ o, (w7.alloc o).cell? ⟨w5.heap.size, 6, none⟩ = some (.bool mj.yes) := fun o => cell_of_block (block_below z7 (below_alloc' (Below.refl _ _) _)) 6 _ rfl
            clear hv hb6 z6 hB6 hx7 hb7 hs7 z7 HV HP5 HX5
            go_wp2_with fail
            generalize hw8 : World.alloc w7 _ = w8
            have hb8 : Below w7.heap.size w7 w8 := by rw [← hw8]; exact below_alloc' (Below.refl _ _) _
            clear hw8 c0 c1' c2' c3' c4' c5' c6'
            refine (same_any _ _ w8 _ _ mj (HV57.out.still (Still.of_below hb8)) (HV7.out.still (Still.of_below hb8)) HF.out).mono ?_
            rintro r w9 ⟨rfl, hb9⟩
            have HB79 := Lib.hid (below_call hb8 hb9)
            have HP9 := Lib.hid (HP7.out.below HB79.out)
            have HX9 := Lib.hid (HX7.out.below HB79.out)
            have HB9 := Lib.hid (HB7.out.trans (HB79.out.mono HB7.out.size))
            clear hb8 hb9 HV57 HV7
            go_wp2_with fail
            refine (lawSame_any _ _ w9 _ _ (takenM ms at') HP9.out HX9.out (by have := HLN.out; omega)).mono ?_
            rintro r w20 ⟨rfl, hb20⟩
            have HB20 := Lib.hid hb20
            clear hb20
            go_wp2
            go_roundw
            case rel => exact ⟨k + 1, (takenM ms at'), by go_num, by omega, by omega, HLN.out, HP9.out.below HB20.out, HX9.out.below HB20.out, HB9.out.trans (HB20.out.mono HB9.out.size)⟩
            case measure => simp [intOf]; omega
          · have hb0 : (r3 == 0) = false := beq_eq_false_iff_ne.mpr h0
            by_cases h1 : r3 = 1
            · have hb1 : (r3 == 1) = true := beq_iff_eq.mpr h1
              clear h0 h1
              have HLN : Hid ((copiedM ms at').length ≤ 200) := Lib.hid (copiedM_le HMS.out)
              obtain ⟨bj, hbj⟩ : ∃ bj, decide ((0 ≤ at' ∧ at' < (ms.length : Int)) ∧ ms.length < 200) = bj := ⟨_, rfl⟩
              have hpc := copy_any w.heap.size wr _ ms HP.out HB.out.size at'
              rw [hbj] at hpc
              have hxc := fun w2' (hx : RefAt w.heap.size w2' (.pointer (some ⟨w2.heap.size, 0, none⟩)) ms) (h2 : w.heap.size ≤ w2'.heap.size) => refCopy_any w.heap.size w2' _ ms hx h2 (by have := HMS.out; omega) at'
              rw [hbj] at hxc
              have HPC := Lib.hid hpc
              have HXC := Lib.hid hxc
              clear hpc hxc hbj
              go_wp2_with fail
              refine HPC.out.mono ?_
              rintro r w5 ⟨rfl, hp5, hb5, hs5⟩
              have HP5 := Lib.hid hp5
              have HX5 := Lib.hid (HX.out.still (rest_refT hs5))
              have HB5 := Lib.hid (HB.out.trans hb5)
              clear hp5 hb5 hs5
              go_wp2_with fail
              refine (HXC.out w5 HX5.out HB5.out.size).mono ?_
              rintro r w7 ⟨rfl, hx7, hb7, hs7⟩
              have HX7 := Lib.hid hx7
              have HP7 := Lib.hid (HP5.out.still (still_sub hs7 fun e he => by rcases he with rfl | rfl | rfl | rfl | rfl | rfl <;> exact ⟨by decide, by decide⟩))
              have HB7 := Lib.hid (HB5.out.trans hb7)
              clear hx7 hb7 hs7 HX5 HP5
              go_wp2_with fail
              refine (lawSame_any _ _ w7 _ _ (copiedM ms at') HP7.out HX7.out (by have := HLN.out; omega)).mono ?_
              rintro r w20 ⟨rfl, hb20⟩
              have HB20 := Lib.hid hb20
              clear hb20
              go_wp2
              go_roundw
              case rel => exact ⟨k + 1, (copiedM ms at'), by go_num, by omega, by omega, HLN.out, HP7.out.below HB20.out, HX7.out.below HB20.out, HB7.out.trans (HB20.out.mono HB7.out.size)⟩
              case measure => simp [intOf]; omega
            · have hb1 : (r3 == 1) = false := beq_eq_false_iff_ne.mpr h1
              by_cases h2 : r3 = 2
              · have hb2 : (r3 == 2) = true := beq_iff_eq.mpr h2
                clear h0 h1 h2
                have HLN : Hid ((copiedM ms at').length ≤ 200) := Lib.hid (copiedM_le HMS.out)
                obtain ⟨bj, hbj⟩ : ∃ bj, decide ((0 ≤ at' ∧ at' < (ms.length : Int)) ∧ ms.length < 200) = bj := ⟨_, rfl⟩
                have hpc := copy_any w.heap.size wr _ ms HP.out HB.out.size at'
                rw [hbj] at hpc
                have hxc := fun w2' (hx : RefAt w.heap.size w2' (.pointer (some ⟨w2.heap.size, 0, none⟩)) ms) (h2 : w.heap.size ≤ w2'.heap.size) => refCopy_any w.heap.size w2' _ ms hx h2 (by have := HMS.out; omega) at'
                rw [hbj] at hxc
                have HPC := Lib.hid hpc
                have HXC := Lib.hid hxc
                clear hpc hxc hbj
                go_wp2_with fail
                refine HPC.out.mono ?_
                rintro r w5 ⟨rfl, hp5, hb5, hs5⟩
                have HP5 := Lib.hid hp5
                have HX5 := Lib.hid (HX.out.still (rest_refT hs5))
                have HB5 := Lib.hid (HB.out.trans hb5)
                clear hp5 hb5 hs5
                go_wp2_with fail
                refine (HXC.out w5 HX5.out HB5.out.size).mono ?_
                rintro r w7 ⟨rfl, hx7, hb7, hs7⟩
                have HX7 := Lib.hid hx7
                have HP7 := Lib.hid (HP5.out.still (still_sub hs7 fun e he => by rcases he with rfl | rfl | rfl | rfl | rfl | rfl <;> exact ⟨by decide, by decide⟩))
                have HB7 := Lib.hid (HB5.out.trans hb7)
                clear hx7 hb7 hs7 HX5 HP5
                go_wp2_with fail
                refine (lawSame_any _ _ w7 _ _ (copiedM ms at') HP7.out HX7.out (by have := HLN.out; omega)).mono ?_
                rintro r w20 ⟨rfl, hb20⟩
                have HB20 := Lib.hid hb20
                clear hb20
                go_wp2
                go_roundw
                case rel => exact ⟨k + 1, (copiedM ms at'), by go_num, by omega, by omega, HLN.out, HP7.out.below HB20.out, HX7.out.below HB20.out, HB7.out.trans (HB20.out.mono HB7.out.size)⟩
                case measure => simp [intOf]; omega
              · have hb2 : (r3 == 2) = false := beq_eq_false_iff_ne.mpr h2
                clear h0 h1 h2
                obtain ⟨q4, hq4, hq4l⟩ : ∃ q4 : Nat, qd nk 6 % 2 = q4 ∧ q4 ≤ 1 := ⟨(qd nk 6 % 2).toNat, by omega, by omega⟩
                have kw4 : IntKind.i64.wrap (1 + (q4 : Int)) = ((1 + q4 : Nat) : Int) := (kwid (by omega) (by omega)).trans (by omega)
                have HQ4 := Lib.hid hq4
                have hq5 : ((1 + q4 : Nat) : Int) ≤ 2 := by omega
                obtain ⟨m1, hm1⟩ : ∃ m, makeM (qd nk 6) ps = m := ⟨_, rfl⟩
                obtain ⟨m2, hm2⟩ : ∃ m, makeM (qd (qd nk 6) 2) [] = m := ⟨_, rfl⟩
                have hc1 := make_any (qd nk 6) _ ps wr (HNP.out.below HB.out)
                rw [hm1] at hc1
                have hc2 := fun w' => make_any (qd (qd nk 6) 2) _ [] w' (Nums.nil w')
                rw [hm2] at hc2
                have HF1 : Hid m1.few := Lib.hid (hm1 ▸ makeM_few _ _)
                have HF2 : Hid m2.few := Lib.hid (hm2 ▸ makeM_few _ _)
                have HC1 := Lib.hid hc1
                have HC2 := Lib.hid hc2
                clear hc1 hc2 hm1 hm2 hq4
                go_wp2_with fail
                refine HC1.out.mono ?_
                rintro r w5 ⟨v, rfl, hv, hb5⟩
                have HV1 := Lib.hid hv
                obtain ⟨xa, xb, xc, xd, rfl⟩ := msg_agg hv
                have HB5 := Lib.hid hb5
                clear hv hb5
                go_wp2_with fail
                refine (HC2.out w5).mono ?_
                rintro r w6 ⟨v, rfl, hv, hb6⟩
                have HV2 := Lib.hid hv
                obtain ⟨ya, yb, yc, yd, rfl⟩ := msg_agg hv
                have HV1' := Lib.hid (HV1.out.still (Still.of_below hb6))
                have HB6 := Lib.hid (below_call HB5.out hb6)
                clear hv hb6 HV1
                go_wp2_with fail
                refine (within12_any (qd nk 6) 2 (by omega) (by omega) _).mono ?_
                rw [HQ4.out]
                rintro r w7' ⟨rfl, rfl⟩
                go_wp2_with fail
                generalize hw7 : World.alloc w6 _ = w7
                have hb7 : Below w6.heap.size w6 w7 := by rw [← hw7]; exact below_alloc' (Below.refl _ _) _
                have z7 : w7.heap[w6.heap.size]? = some (.cells ([Value.int .i64 m1.kind, .int .i64 m1.src, .int .i64 m1.dst, .int .i64 m1.gang, .slice xa m1.pods.length xb, .slice xc m1.peers.length xd, .bool m1.yes] ++ [Value.int .i64 m2.kind, .int .i64 m2.src, .int .i64 m2.dst, .int .i64 m2.gang, .slice ya m2.pods.length yb, .slice yc m2.peers.length yd, .bool m2.yes]).toArray 26 (0, 0)) := by rw [← hw7]; exact alloc_at _ _
                clear hw7
                have hrow := two_row (B := wr.heap.size) z7 HB6.out.size rfl rfl ((HV1'.out.base (Nat.zero_le _)).still (Still.of_below hb7)) ((HV2.out.base (Nat.zero_le _)).still (Still.of_below hb7)) HF1.out HF2.out
                obtain ⟨l, hl⟩ : ∃ l, [m1, m2].take (1 + q4) = l := ⟨_, rfl⟩
                have hrow2 := MsgRow.take (n' := 1 + q4) hrow (by simp; omega)
                rw [hl] at hrow2
                have hll : l.length ≤ 2 := by rw [← hl, List.length_take]; simp; omega
                have hB7 := below_call HB6.out hb7
                have HROW := Lib.hid hrow2
                have HB7 := Lib.hid hB7
                have HLL := Lib.hid hll
                have HLN : Hid ((sent ms l).length ≤ 200) := Lib.hid (sent_le HMS.out)
                clear z7 hrow hl hrow2 hb7 hB7 HV1' HV2
                refine (send_any w.heap.size w7 _ ms (HP.out.below HB7.out) (Nat.le_trans HB.out.size HB7.out.size) _ l HROW.out.at_ (by omega)).mono ?_
                rintro r w8 ⟨rfl, hp8, hb8, hs8⟩
                have HP8 := Lib.hid hp8
                have HB8 := Lib.hid ((HB.out.trans (HB7.out.mono HB.out.size)).trans hb8)
                have hrow8 := HROW.out.still (rest_msgT hs8)
                have hsep := RefAt.sep (v := .slice (some ⟨w6.heap.size, 0, none⟩) (1 + q4) 2) HX.out ((Still.of_below HB7.out).trans (rest_refT hs8)) (fun g hg => by
                  have : w6.heap.size = g := by simpa [Value.ownBlock] using hg
                  rw [← this]
                  exact HB6.out.size)
                have HROW8 := Lib.hid hrow8
                have HSEP := Lib.hid hsep
                clear hp8 hb8 hs8 hrow8 hsep
                go_wp2_with fail
                refine (refSend_any w.heap.size w8 _ ms _ HSEP.out HB8.out.size HMS.out l HROW8.out.at_ (by have := HLL.out; omega)).mono ?_
                rintro r w9 ⟨rfl, hx9, hb9, hs9⟩
                have HX9 := Lib.hid hx9
                have HP9 := Lib.hid (HP8.out.still (still_sub hs9 fun e he => by rcases he with rfl | rfl | rfl | rfl | rfl | rfl <;> exact ⟨by decide, by decide⟩))
                have HB9 := Lib.hid (HB8.out.trans hb9)
                clear hx9 hb9 hs9
                go_wp2_with fail
                refine (lawSame_any _ _ w9 _ _ (sent ms l) HP9.out HX9.out (by have := HLN.out; omega)).mono ?_
                rintro r w20 ⟨rfl, hb20⟩
                have HB20 := Lib.hid hb20
                clear hb20
                go_wp2
                go_roundw
                case rel => exact ⟨k + 1, (sent ms l), by go_num, by omega, by omega, HLN.out, HP9.out.below HB20.out, HX9.out.below HB20.out, HB9.out.trans (HB20.out.mono HB9.out.size)⟩
                case measure => simp [intOf]; omega
      · have h60' : ¬ (k : Int) < 60 := by omega
        have hlt' : (k : Int) < ns.length := by omega
        go_wp2
        go_ret
        exact ⟨rfl, HB.out.mono (Nat.le_refl _)⟩
    · have hlt' : ¬ (k : Int) < ns.length := by omega
      go_wp2
      go_ret
      exact ⟨rfl, HB.out.mono (Nat.le_refl _)⟩

theorem postPlays_row (a0 : Option Addr) (len0 cap0 : Nat) (z0 : List Int) (a1 : Option Addr) (len1 cap1 : Nat) (z1 : List Int) (raw : Int) (w : World) (w0 : IsRow .i64 w a0 len0 cap0 z0) (y0 : len0 * 8 ≤ 140737488351232) (w1 : IsRow .i64 w a1 len1 cap1 z1) (y1 : len1 * 8 ≤ 140737488351232) (ht : Tabs w) :
    Calls Tryd.prog 5 #[.slice a0 len0 cap0, .slice a1 len1 cap1, .int .i64 raw] w fun e w' => e = .returned (.bool true) ∧ Below w.heap.size w w' :=
  postPlays_any _ _ _ _ raw w (nums_row w0 y0) (nums_row w1 y1) ht
end Go.Proofs.YtpkkjonajimefaaDoor
