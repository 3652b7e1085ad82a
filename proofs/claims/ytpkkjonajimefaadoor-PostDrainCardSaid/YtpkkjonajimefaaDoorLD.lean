/- PostDrain: the law's walk. -/
import Derived.Test.YtpkkjonajimefaaDoorLs
set_option linter.unusedVariables false
set_option linter.unusedSimpArgs false
namespace Go.Proofs.YtpkkjonajimefaaDoor
open Go.RowKit

/-- The first k messages by numbers. -/
def mades (ns ps : List Int) (k : Nat) : List MsgM := (List.range k).map fun i => makeM (ns.getD i 0) ps
theorem mades_len (ns ps : List Int) (k : Nat) : (mades ns ps k).length = k := by simp [mades]
theorem mades_succ (ns ps : List Int) (k : Nat) : mades ns ps (k + 1) = mades ns ps k ++ [makeM (ns.getD k 0) ps] := by simp [mades, List.range_succ]

set_option maxHeartbeats 16000000 in
set_option maxRecDepth 100000 in
theorem postDrain_any (vn vp : Value) (ns ps : List Int) (w : World) (hn : Nums w vn ns) (hp : Nums w vp ps) (ht : Tabs w) : Calls Tryd.prog 9 #[vn, vp] w fun e w' => e = .returned (.bool true) ∧ Below w.heap.size w w' := by
  have HT := Lib.hid ht
  have HNP := Lib.hid hp
  have HNN := Lib.hid hn
  obtain ⟨na, nc, rfl, hnl, _⟩ := hn
  obtain ⟨pa, pc, rfl, _, _⟩ := hp
  clear ht
  go_enter Tryd.func9, Tryd.ntmps9
  go_wp2_with (first | (go_at_call 10; refine (known_any _ HT.out).mono ?_; rintro r w1 ⟨rfl, hb⟩; have HB1 := Lib.hid hb; clear hb) | (go_at_call 15; refine (new_any _).mono ?_; rintro r w2 ⟨b, rfl, hp, hb⟩; have HP2 := Lib.hid (hp.base HB1.out.size); have HB2 := Lib.hid (below_call HB1.out hb); clear hp hb))
  go_loopw [6, 7] (fun v i wr => ∃ k : Nat, i = .int .i64 k ∧ k ≤ 60 ∧ k ≤ ns.length ∧ MsgRow w.heap.size wr v (mades ns ps k) ∧ PostAt w.heap.size wr (.pointer (some ⟨b, 0, none⟩)) [] ∧ Below w.heap.size w wr) (fun _ i _ => 60 - (intOf i).toNat)
  case atStart => exact ⟨0, rfl, by omega, Nat.zero_le _, MsgRow.nil _ _, HP2.out, HB2.out⟩
  case round =>
    clear HP2 HB2
    obtain ⟨k, rfl, hk, hkn, hrow, hp, hb⟩ := hrel
    have HROW := Lib.hid hrow
    have HP := Lib.hid hp
    have HB := Lib.hid hb
    clear hrow hp hb
    by_cases hgo : k < ns.length ∧ k < 60
    · obtain ⟨hlt, h60⟩ := hgo
      have h60' : (k : Int) < 60 := by omega
      obtain ⟨bb, off, rfl, hcl⟩ : ∃ bb off, na = some ⟨bb, off, none⟩ ∧ wr.cell? ⟨bb, off + k, none⟩ = some (.int .i64 (ns.getD k 0)) := by
        obtain ⟨a', c', e, _, h⟩ := HNN.out
        injection e with e1 e2 e3
        subst e1
        obtain ⟨bb, off, h1, h2⟩ := h k hlt
        exact ⟨bb, off, h1, cell_below h2 HB.out⟩
      obtain ⟨nk, hnk⟩ : ∃ nk, ns.getD k 0 = nk := ⟨_, rfl⟩
      rw [hnk] at hcl
      have HNK := Lib.hid hnk
      obtain ⟨mk, hmk⟩ : ∃ m, makeM nk ps = m := ⟨_, rfl⟩
      have hc1 := make_any nk _ ps wr (HNP.out.below HB.out)
      rw [hmk] at hc1
      have HF : Hid mk.few := Lib.hid (hmk ▸ makeM_few _ _)
      have HC1 := Lib.hid hc1
      have HMK := Lib.hid hmk
      obtain ⟨cc, hown, hcc⟩ := HROW.out
      rw [mades_len] at hown
      have HOWN := Lib.hid hown
      have HCC := Lib.hid hcc
      clear hnk hc1 hmk hown hcc
      go_wp2_with fail
      refine HC1.out.mono ?_
      rintro r w5 ⟨v, rfl, hv, hb5⟩
      have HV := Lib.hid hv
      obtain ⟨a1, c1, a2, c2, rfl⟩ := msg_agg hv
      have HB5 := Lib.hid hb5
      clear hv hb5 hcl
      go_wp2_with (at_builtin; refine list_app_spill elt_msgs _ _ rfl rfl rfl rfl (World.ownsRow.alloc (own_below HOWN.out HB5.out) _) (show ([Value.int .i64 mk.kind, .int .i64 mk.src, .int .i64 mk.dst, .int .i64 mk.gang, .slice a1 mk.pods.length c1, .slice a2 mk.peers.length c2, .bool mk.yes] : List Value).length = 1 * 7 from rfl) (news_row (alloc_at _ _)) (by simp [Value.oneCell']) (by omega) (by have := HB.out.size; have := HB5.out.size; simp; omega) ?_; intro v' w6 hown hsp; have HO6 := Lib.hid hown; have HSP := Lib.hid hsp; clear hown hsp)
      go_roundw
      case rel =>
        have hal := below_call HB5.out (below_alloc' (Below.refl w5.heap.size w5) (.cells #[.int .i64 mk.kind, .int .i64 mk.src, .int .i64 mk.dst, .int .i64 mk.gang, .slice a1 mk.pods.length c1, .slice a2 mk.peers.length c2, .bool mk.yes] 26))
        have hst := (Still.of_below (T := fun e => e ≠ 26) hal).trans HSP.out.still
        have hpar : Still Parts wr w6 := still_sub hst fun e he => by rcases he with rfl | rfl | rfl <;> decide
        refine ⟨k + 1, by go_num, by omega, by omega, ?_, HP.out.still (still_sub hst fun e he => postT_ne he), HB.out.trans ((hal.mono HB.out.size).trans (HSP.out.below (Nat.le_trans HB.out.size hal.size) (Nat.le_refl _)))⟩
        rw [mades_succ, HNK.out, HMK.out]
        refine MsgRow.snoc (w := w6) (c := cc) (fun i hi => ⟨(HCC.out i hi).1, (HCC.out i hi).2.1.still hpar, (HCC.out i hi).2.2⟩) rfl ((HV.out.base (Nat.zero_le _)).still (still_sub ((Still.of_below (below_alloc' (Below.refl w5.heap.size w5) _)).trans HSP.out.still) fun e he => by rcases he with rfl | rfl | rfl <;> decide)) HF.out ?_ (fun _ _ _ _ h => h)
        rw [mades_len]
        exact HO6.out
      case measure => simp [intOf]; omega
    · have hor : ¬ k < ns.length ∨ (k < ns.length ∧ ¬ k < 60) := by omega
      have hlm : (mades ns ps k).length = k := mades_len _ _ _
      obtain ⟨va, vc, rfl⟩ : ∃ a c, u6 = .slice a k c := by
        obtain ⟨cc, hown, _⟩ := HROW.out
        rw [hlm] at hown
        exact own_slicen hown
      have HLM := Lib.hid hlm
      obtain ⟨L, hL⟩ : ∃ L, mades ns ps k = L := ⟨_, rfl⟩
      rw [hL] at HROW HLM
      clear hL hlm hgo
      have hk2 : k ≤ 60 := hk
      rcases hor with h1 | ⟨h1, h2⟩
      · have h1' : ¬ (k : Int) < ns.length := by omega
        go_wp2_with fail
        refine (send_any w.heap.size wr _ [] HP.out HB.out.size _ L HROW.out.at_ (by have := HLM.out; omega)).mono ?_
        rintro r w3 ⟨rfl, hp3, hb3, hs3⟩
        have hsent : sent [] L = L := by
          rw [sent_eq _ _ (by simp), List.nil_append, List.take_of_length_le (by have := HLM.out; omega)]
        rw [hsent] at hp3
        have HP3 := Lib.hid hp3
        have HROW3 := Lib.hid (HROW.out.still (rest_msgT hs3))
        have HB3 := Lib.hid (HB.out.trans hb3)
        clear hp3 hb3 hs3 hsent HP HROW HB
        go_wp2
        go_loopw [8] (fun i w4 => ∃ q : Nat, i = .int .i64 q ∧ q ≤ k ∧ PostAt w.heap.size w4 (.pointer (some ⟨b, 0, none⟩)) (L.drop q) ∧ MsgRow w.heap.size w4 (.slice va k vc) L ∧ Below w.heap.size w w4) (fun i _ => k - (intOf i).toNat)
        case atStart => exact ⟨0, rfl, Nat.zero_le _, HP3.out, HROW3.out, HB3.out⟩
        case round =>
          clear HP3 HROW3 HB3
          obtain ⟨q, rfl, hq, hp, hrow, hb⟩ := hrel
          have HP := Lib.hid hp
          have HROW := Lib.hid hrow
          have HB := Lib.hid hb
          clear hp hrow hb
          by_cases hqk : q < k
          · have hqk' : (q : Int) < k := by omega
            obtain ⟨g, b1, d1, b2, d2, rfl, _, hcell, hm, hf⟩ := msgs_cells HROW.out (k := q) (by have := HLM.out; omega)
            obtain ⟨mj, hmj⟩ : ∃ m, L.getD q noMsg = m := ⟨_, rfl⟩
            rw [hmj] at hcell hm hf
            have hgetD : (L.drop q).getD 0 noMsg = mj := by rw [List.getD_eq_getElem?_getD, List.getElem?_drop, Nat.add_zero, ← List.getD_eq_getElem?_getD, hmj]
            have hdr : (L.drop q).eraseIdx 0 = L.drop (q + 1) := by rw [List.eraseIdx_zero, List.tail_drop]
            have htk := take_get w.heap.size wr _ (L.drop q) HP.out HB.out.size 0 (by rw [List.length_drop]; have := HLM.out; omega)
            rw [hgetD, hdr] at htk
            have HTK := Lib.hid htk
            have HF := Lib.hid hf
            have HM := Lib.hid hm
            have HCELL := Lib.hid hcell
            have kw1 : IntKind.i64.wrap ((k : Int) - q) = ((k - q : Nat) : Int) := (kwid (by omega) (by omega)).trans (by omega)
            have kw2 : IntKind.i64.wrap (((k - q : Nat) : Int) - 1) = ((k - (q + 1) : Nat) : Int) := (kwid (by omega) (by omega)).trans (by omega)
            have hqn : (q : Int) < k := hqk'
            clear hcell hm hf hmj hgetD hdr htk
            go_wp2_with fail
            refine HTK.out.mono ?_
            rintro r w8 ⟨a1, c1, a2, c2, rfl, hv, hp8, hb8, hs8⟩
            have HV := Lib.hid hv
            have HP8 := Lib.hid hp8
            have HB8 := Lib.hid (HB.out.trans hb8)
            have HROW8 := Lib.hid (HROW.out.still (rest_msgT hs8))
            have hcell8 : ∀ j x, [Value.int .i64 mj.kind, .int .i64 mj.src, .int .i64 mj.dst, .int .i64 mj.gang, .slice b1 mj.pods.length d1, .slice b2 mj.peers.length d2, .bool mj.yes][j]? = some x → w8.cell? ⟨g, q * 7 + j, none⟩ = some x := fun j x hx => by
              obtain ⟨cc, h1, _⟩ := HROW.out
              obtain ⟨cur, hcur⟩ := own_row h1 g rfl
              have h2 := hs8 _ _ _ ⟨by decide, by decide⟩ hcur
              exact (World.cell?_of_block (h2.trans hcur.symm)).trans (HCELL.out j x hx)
            have HM8 := Lib.hid (HM.out.still (parts_rest hs8))
            have HCELL8 := Lib.hid hcell8
            clear hv hp8 hb8 hs8 hcell8 HTK
            go_upto_region 16 with fail
            generalize hw9 : World.alloc w8 _ = w9
            have hb9 : Below w8.heap.size w8 w9 := by rw [← hw9]; exact below_alloc' (Below.refl _ _) _
            have z9 : w9.heap[w8.heap.size]? = some (.cells #[.int .i64 mj.kind, .int .i64 mj.src, .int .i64 mj.dst, .int .i64 mj.gang, .slice a1 mj.pods.length c1, .slice a2 mj.peers.length c2, .bool mj.yes] 26 (0, 0)) := by rw [← hw9]; exact alloc_at _ _
            clear hw9
            have hrc : ∀ w6, Below w9.drew.heap.size w9.drew w6 → ∀ j x, [Value.int .i64 mj.kind, .int .i64 mj.src, .int .i64 mj.dst, .int .i64 mj.gang, .slice b1 mj.pods.length d1, .slice b2 mj.peers.length d2, .bool mj.yes][j]? = some x → w6.cell? ⟨g, q * 7 + j, none⟩ = some x := fun w6 h j x hx => cell_below (w := w9.drew) (cell_below (HCELL8.out j x hx) hb9.drew) h
            have HRC := Lib.hid hrc
            have Z9 := Lib.hid z9
            have HB9 := Lib.hid hb9
            clear hrc z9 hb9
            refine' Par.wp_region_pars (fun w w' => Below w.heap.size w w') 21 (by kernel_rfl) (by kernel_rfl) (by kernel_rfl) (by kernel_rfl) (by kernel_rfl) (by kernel_rfl)
              (fun w => Below.refl _ w) (fun h k => below_call h k) (fun vals => ?_)
            rotate_left
            simp only [List.take_succ_cons, List.take_zero, List.drop_succ_cons, List.drop_zero]
            (apply Par.par_x rfl; (focus (intro w6 hR hD K hK; replace hK := Lib.hid hK; skip; clear hR hD; go_simp; exact hK.out _ (Below.refl _ _))); simp only [Act.put, List.setIfInBounds_toArray, List.set_cons_zero, List.set_cons_succ, Nat.reduceAdd, List.cons_append, List.nil_append])
            (apply Par.par_x rfl; (focus (intro w6 hR hD K hK; replace hK := Lib.hid hK; skip; clear hR hD; go_simp; exact hK.out _ (Below.refl _ _))); simp only [Act.put, List.setIfInBounds_toArray, List.set_cons_zero, List.set_cons_succ, Nat.reduceAdd, List.cons_append, List.nil_append])
            (apply Par.par_x rfl; (focus (intro w6 hR hD K hK; replace hK := Lib.hid hK; skip; clear hR hD; go_simp; exact hK.out _ (Below.refl _ _))); simp only [Act.put, List.setIfInBounds_toArray, List.set_cons_zero, List.set_cons_succ, Nat.reduceAdd, List.cons_append, List.nil_append])
            (apply Par.par_g; (focus (intro w6 hR hD K hK; replace hK := Lib.hid hK; have z := block_below (w := w9.drew) Z9.out hR; have e0 := cell_of_block z 0 _ rfl; have e1 := cell_of_block z 1 _ rfl; have e2 := cell_of_block z 2 _ rfl; have e3 := cell_of_block z 3 _ rfl; have e4 := cell_of_block z 4 _ rfl; have e5 := cell_of_block z 5 _ rfl; have e6 := cell_of_block z 6 _ rfl; clear z; clear hR hD; go_simp; exact hK.out _ (Below.refl _ _))); simp only [Act.put, List.setIfInBounds_toArray, List.set_cons_zero, List.set_cons_succ, Nat.reduceAdd, List.cons_append, List.nil_append])
            (apply Par.par_g; (focus (intro w6 hR hD K hK; replace hK := Lib.hid hK; skip; clear hR hD; go_simp; exact hK.out _ (Below.refl _ _))); simp only [Act.put, List.setIfInBounds_toArray, List.set_cons_zero, List.set_cons_succ, Nat.reduceAdd, List.cons_append, List.nil_append])
            (apply Par.par_g; (focus (intro w6 hR hD K hK; replace hK := Lib.hid hK; skip; clear hR hD; go_simp; exact hK.out _ (Below.refl _ _))); simp only [Act.put, List.setIfInBounds_toArray, List.set_cons_zero, List.set_cons_succ, Nat.reduceAdd, List.cons_append, List.nil_append])
            (apply Par.par_g; (focus (intro w6 hR hD K hK; replace hK := Lib.hid hK; skip; clear hR hD; go_simp; exact hK.out _ (Below.refl _ _))); simp only [Act.put, List.setIfInBounds_toArray, List.set_cons_zero, List.set_cons_succ, Nat.reduceAdd, List.cons_append, List.nil_append])
            (apply Par.par_g; (focus (intro w6 hR hD K hK; replace hK := Lib.hid hK; have hc := (HRC.out w6 hR); have f0 : w6.cell? ⟨g, q * 7, none⟩ = some (.int .i64 mj.kind) := hc 0 _ rfl; have f1 := hc 1 _ rfl; have f2 := hc 2 _ rfl; have f3 := hc 3 _ rfl; have f4 := hc 4 _ rfl; have f5 := hc 5 _ rfl; have f6 := hc 6 _ rfl; clear hc; clear hR hD; go_simp; exact hK.out _ (Below.refl _ _))); simp only [Act.put, List.setIfInBounds_toArray, List.set_cons_zero, List.set_cons_succ, Nat.reduceAdd, List.cons_append, List.nil_append])
            (apply Par.par_g; (focus (intro w6 hR hD K hK; replace hK := Lib.hid hK; have hb := below_call HB9.out.drew hR; have HBW := Lib.hid hb; clear hR hD hb; go_simp; refine (same_any _ _ w6 _ _ mj (HV.out.still (Still.of_below HBW.out)) (HM8.out.still (Still.of_below HBW.out)) HF.out).mono ?_; rintro r w7 ⟨rfl, hb⟩; exact hK.out _ hb)); simp only [Act.put, List.setIfInBounds_toArray, List.set_cons_zero, List.set_cons_succ, Nat.reduceAdd, List.cons_append, List.nil_append])
            (apply Par.par_g; (focus (intro w6 hR hD K hK; replace hK := Lib.hid hK; skip; clear hR hD; go_simp; exact hK.out _ (Below.refl _ _))); simp only [Act.put, List.setIfInBounds_toArray, List.set_cons_zero, List.set_cons_succ, Nat.reduceAdd, List.cons_append, List.nil_append])
            (apply Par.par_x rfl; (focus (intro w6 hR hD K hK; replace hK := Lib.hid hK; skip; clear hR hD; go_simp; exact hK.out _ (Below.refl _ _))); simp only [Act.put, List.setIfInBounds_toArray, List.set_cons_zero, List.set_cons_succ, Nat.reduceAdd, List.cons_append, List.nil_append])
            (apply Par.par_x rfl; (focus (intro w6 hR hD K hK; replace hK := Lib.hid hK; skip; clear hR hD; go_simp; exact hK.out _ (Below.refl _ _))); simp only [Act.put, List.setIfInBounds_toArray, List.set_cons_zero, List.set_cons_succ, Nat.reduceAdd, List.cons_append, List.nil_append])
            (apply Par.par_g; (focus (intro w6 hR hD K hK; replace hK := Lib.hid hK; skip; clear hR hD; go_simp; exact hK.out _ (Below.refl _ _))); simp only [Act.put, List.setIfInBounds_toArray, List.set_cons_zero, List.set_cons_succ, Nat.reduceAdd, List.cons_append, List.nil_append])
            (apply Par.par_g; (focus (intro w6 hR hD K hK; replace hK := Lib.hid hK; have hb := below_call HB9.out.drew hR; have HBW := Lib.hid hb; clear hR hD hb; go_simp; refine (len_is _ w6 _ _ (HP8.out.below HBW.out) (k - (q + 1)) (by rw [List.length_drop, HLM.out])).mono ?_; rintro r w7 ⟨rfl, rfl⟩; exact hK.out _ (Below.refl _ _))); simp only [Act.put, List.setIfInBounds_toArray, List.set_cons_zero, List.set_cons_succ, Nat.reduceAdd, List.cons_append, List.nil_append])
            (apply Par.par_g; (focus (intro w6 hR hD K hK; replace hK := Lib.hid hK; skip; clear hR hD; go_simp; exact hK.out _ (Below.refl _ _))); simp only [Act.put, List.setIfInBounds_toArray, List.set_cons_zero, List.set_cons_succ, Nat.reduceAdd, List.cons_append, List.nil_append])
            (apply Par.par_g; (focus (intro w6 hR hD K hK; replace hK := Lib.hid hK; skip; clear hR hD; go_simp; exact hK.out _ (Below.refl _ _))); simp only [Act.put, List.setIfInBounds_toArray, List.set_cons_zero, List.set_cons_succ, Nat.reduceAdd, List.cons_append, List.nil_append])
            (apply Par.par_g; (focus (intro w6 hR hD K hK; replace hK := Lib.hid hK; skip; clear hR hD; go_simp; exact hK.out _ (Below.refl _ _))); simp only [Act.put, List.setIfInBounds_toArray, List.set_cons_zero, List.set_cons_succ, Nat.reduceAdd, List.cons_append, List.nil_append])
            (apply Par.par_g; (focus (intro w6 hR hD K hK; replace hK := Lib.hid hK; skip; clear hR hD; go_simp; exact hK.out _ (Below.refl _ _))); simp only [Act.put, List.setIfInBounds_toArray, List.set_cons_zero, List.set_cons_succ, Nat.reduceAdd, List.cons_append, List.nil_append])
            (apply Par.par_g; (focus (intro w6 hR hD K hK; replace hK := Lib.hid hK; skip; clear hR hD; go_simp; exact hK.out _ (Below.refl _ _))); simp only [Act.put, List.setIfInBounds_toArray, List.set_cons_zero, List.set_cons_succ, Nat.reduceAdd, List.cons_append, List.nil_append])
            (apply Par.par_g; (focus (intro w6 hR hD K hK; replace hK := Lib.hid hK; skip; clear hR hD; go_simp; exact hK.out _ (Below.refl _ _))); simp only [Act.put, List.setIfInBounds_toArray, List.set_cons_zero, List.set_cons_succ, Nat.reduceAdd, List.cons_append, List.nil_append])
            (apply Par.par_x rfl; (focus (intro w6 hR hD K hK; replace hK := Lib.hid hK; skip; clear hR hD; go_simp; exact hK.out _ (Below.refl _ _))); simp only [Act.put, List.setIfInBounds_toArray, List.set_cons_zero, List.set_cons_succ, Nat.reduceAdd, List.cons_append, List.nil_append])
            refine Par.par_end fun w6 hR hp => ?_
            clear hp
            have HB6 := Lib.hid (below_call HB9.out.drew hR)
            clear hR HRC
            go_wp2
            go_roundw
            case rel => exact ⟨q + 1, by go_num, by omega, HP8.out.below HB6.out, HROW8.out.still (Still.of_below HB6.out), HB8.out.trans (HB6.out.mono HB8.out.size)⟩
            case measure => simp [intOf]; omega
          · obtain rfl : q = k := by omega
            have hdr : L.drop q = [] := List.drop_of_length_le (by have := HLM.out; omega)
            have hp := HP.out
            rw [hdr] at hp
            have HP' := Lib.hid hp
            clear hp hdr
            go_wp2_with fail
            refine (take_any w.heap.size wr _ [] HP'.out HB.out.size 0).mono ?_
            rintro r w8 ⟨v, rfl, hv, hp8, hb8, hs8⟩
            obtain ⟨a1, c1, a2, c2, rfl⟩ := msg_agg hv
            have HP8 : Hid (PostAt w.heap.size w8 (.pointer (some ⟨b, 0, none⟩)) []) := hp8
            have HB8 := Lib.hid (HB.out.trans hb8)
            rw [show decide ((0 : Int) ≤ 0 ∧ (0 : Int) < (([] : List MsgM).length : Int)) = false from rfl]
            clear hv hp8 hb8 hs8
            go_wp2_with fail
            generalize hw9 : World.alloc w8 _ = w9
            have hb9 : Below w8.heap.size w8 w9 := by rw [← hw9]; exact below_alloc' (Below.refl _ _) _
            clear hw9
            have HB9 := Lib.hid (HB8.out.trans (hb9.mono HB8.out.size))
            have HP9 := Lib.hid (HP8.out.below hb9)
            clear hb9
            refine (len_is _ w9 _ [] HP9.out 0 rfl).mono ?_
            rintro r w10 ⟨rfl, rfl⟩
            go_wp2_with fail
            refine (copy_no w.heap.size w9 _ [] HP9.out HB9.out.size 0 (by simp)).mono ?_
            rintro r w11 ⟨rfl, _, hb11, _⟩
            have HB11 := Lib.hid (HB9.out.trans hb11)
            clear hb11
            go_wp2
            go_ret
            exact ⟨rfl, HB11.out.mono (Nat.le_refl _)⟩
      · have h1' : (k : Int) < ns.length := by omega
        have h2' : ¬ (k : Int) < 60 := by omega
        go_wp2_with fail
        refine (send_any w.heap.size wr _ [] HP.out HB.out.size _ L HROW.out.at_ (by have := HLM.out; omega)).mono ?_
        rintro r w3 ⟨rfl, hp3, hb3, hs3⟩
        have hsent : sent [] L = L := by
          rw [sent_eq _ _ (by simp), List.nil_append, List.take_of_length_le (by have := HLM.out; omega)]
        rw [hsent] at hp3
        have HP3 := Lib.hid hp3
        have HROW3 := Lib.hid (HROW.out.still (rest_msgT hs3))
        have HB3 := Lib.hid (HB.out.trans hb3)
        clear hp3 hb3 hs3 hsent HP HROW HB
        go_wp2
        go_loopw [8] (fun i w4 => ∃ q : Nat, i = .int .i64 q ∧ q ≤ k ∧ PostAt w.heap.size w4 (.pointer (some ⟨b, 0, none⟩)) (L.drop q) ∧ MsgRow w.heap.size w4 (.slice va k vc) L ∧ Below w.heap.size w w4) (fun i _ => k - (intOf i).toNat)
        case atStart => exact ⟨0, rfl, Nat.zero_le _, HP3.out, HROW3.out, HB3.out⟩
        case round =>
          clear HP3 HROW3 HB3
          obtain ⟨q, rfl, hq, hp, hrow, hb⟩ := hrel
          have HP := Lib.hid hp
          have HROW := Lib.hid hrow
          have HB := Lib.hid hb
          clear hp hrow hb
          by_cases hqk : q < k
          · have hqk' : (q : Int) < k := by omega
            obtain ⟨g, b1, d1, b2, d2, rfl, _, hcell, hm, hf⟩ := msgs_cells HROW.out (k := q) (by have := HLM.out; omega)
            obtain ⟨mj, hmj⟩ : ∃ m, L.getD q noMsg = m := ⟨_, rfl⟩
            rw [hmj] at hcell hm hf
            have hgetD : (L.drop q).getD 0 noMsg = mj := by rw [List.getD_eq_getElem?_getD, List.getElem?_drop, Nat.add_zero, ← List.getD_eq_getElem?_getD, hmj]
            have hdr : (L.drop q).eraseIdx 0 = L.drop (q + 1) := by rw [List.eraseIdx_zero, List.tail_drop]
            have htk := take_get w.heap.size wr _ (L.drop q) HP.out HB.out.size 0 (by rw [List.length_drop]; have := HLM.out; omega)
            rw [hgetD, hdr] at htk
            have HTK := Lib.hid htk
            have HF := Lib.hid hf
            have HM := Lib.hid hm
            have HCELL := Lib.hid hcell
            have kw1 : IntKind.i64.wrap ((k : Int) - q) = ((k - q : Nat) : Int) := (kwid (by omega) (by omega)).trans (by omega)
            have kw2 : IntKind.i64.wrap (((k - q : Nat) : Int) - 1) = ((k - (q + 1) : Nat) : Int) := (kwid (by omega) (by omega)).trans (by omega)
            have hqn : (q : Int) < k := hqk'
            clear hcell hm hf hmj hgetD hdr htk
            go_wp2_with fail
            refine HTK.out.mono ?_
            rintro r w8 ⟨a1, c1, a2, c2, rfl, hv, hp8, hb8, hs8⟩
            have HV := Lib.hid hv
            have HP8 := Lib.hid hp8
            have HB8 := Lib.hid (HB.out.trans hb8)
            have HROW8 := Lib.hid (HROW.out.still (rest_msgT hs8))
            have hcell8 : ∀ j x, [Value.int .i64 mj.kind, .int .i64 mj.src, .int .i64 mj.dst, .int .i64 mj.gang, .slice b1 mj.pods.length d1, .slice b2 mj.peers.length d2, .bool mj.yes][j]? = some x → w8.cell? ⟨g, q * 7 + j, none⟩ = some x := fun j x hx => by
              obtain ⟨cc, h1, _⟩ := HROW.out
              obtain ⟨cur, hcur⟩ := own_row h1 g rfl
              have h2 := hs8 _ _ _ ⟨by decide, by decide⟩ hcur
              exact (World.cell?_of_block (h2.trans hcur.symm)).trans (HCELL.out j x hx)
            have HM8 := Lib.hid (HM.out.still (parts_rest hs8))
            have HCELL8 := Lib.hid hcell8
            clear hv hp8 hb8 hs8 hcell8 HTK
            go_upto_region 16 with fail
            generalize hw9 : World.alloc w8 _ = w9
            have hb9 : Below w8.heap.size w8 w9 := by rw [← hw9]; exact below_alloc' (Below.refl _ _) _
            have z9 : w9.heap[w8.heap.size]? = some (.cells #[.int .i64 mj.kind, .int .i64 mj.src, .int .i64 mj.dst, .int .i64 mj.gang, .slice a1 mj.pods.length c1, .slice a2 mj.peers.length c2, .bool mj.yes] 26 (0, 0)) := by rw [← hw9]; exact alloc_at _ _
            clear hw9
            have hrc : ∀ w6, Below w9.drew.heap.size w9.drew w6 → ∀ j x, [Value.int .i64 mj.kind, .int .i64 mj.src, .int .i64 mj.dst, .int .i64 mj.gang, .slice b1 mj.pods.length d1, .slice b2 mj.peers.length d2, .bool mj.yes][j]? = some x → w6.cell? ⟨g, q * 7 + j, none⟩ = some x := fun w6 h j x hx => cell_below (w := w9.drew) (cell_below (HCELL8.out j x hx) hb9.drew) h
            have HRC := Lib.hid hrc
            have Z9 := Lib.hid z9
            have HB9 := Lib.hid hb9
            clear hrc z9 hb9
            refine' Par.wp_region_pars (fun w w' => Below w.heap.size w w') 21 (by kernel_rfl) (by kernel_rfl) (by kernel_rfl) (by kernel_rfl) (by kernel_rfl) (by kernel_rfl)
              (fun w => Below.refl _ w) (fun h k => below_call h k) (fun vals => ?_)
            rotate_left
            simp only [List.take_succ_cons, List.take_zero, List.drop_succ_cons, List.drop_zero]
            (apply Par.par_x rfl; (focus (intro w6 hR hD K hK; replace hK := Lib.hid hK; skip; clear hR hD; go_simp; exact hK.out _ (Below.refl _ _))); simp only [Act.put, List.setIfInBounds_toArray, List.set_cons_zero, List.set_cons_succ, Nat.reduceAdd, List.cons_append, List.nil_append])
            (apply Par.par_x rfl; (focus (intro w6 hR hD K hK; replace hK := Lib.hid hK; skip; clear hR hD; go_simp; exact hK.out _ (Below.refl _ _))); simp only [Act.put, List.setIfInBounds_toArray, List.set_cons_zero, List.set_cons_succ, Nat.reduceAdd, List.cons_append, List.nil_append])
            (apply Par.par_x rfl; (focus (intro w6 hR hD K hK; replace hK := Lib.hid hK; skip; clear hR hD; go_simp; exact hK.out _ (Below.refl _ _))); simp only [Act.put, List.setIfInBounds_toArray, List.set_cons_zero, List.set_cons_succ, Nat.reduceAdd, List.cons_append, List.nil_append])
            (apply Par.par_g; (focus (intro w6 hR hD K hK; replace hK := Lib.hid hK; have z := block_below (w := w9.drew) Z9.out hR; have e0 := cell_of_block z 0 _ rfl; have e1 := cell_of_block z 1 _ rfl; have e2 := cell_of_block z 2 _ rfl; have e3 := cell_of_block z 3 _ rfl; have e4 := cell_of_block z 4 _ rfl; have e5 := cell_of_block z 5 _ rfl; have e6 := cell_of_block z 6 _ rfl; clear z; clear hR hD; go_simp; exact hK.out _ (Below.refl _ _))); simp only [Act.put, List.setIfInBounds_toArray, List.set_cons_zero, List.set_cons_succ, Nat.reduceAdd, List.cons_append, List.nil_append])
            (apply Par.par_g; (focus (intro w6 hR hD K hK; replace hK := Lib.hid hK; skip; clear hR hD; go_simp; exact hK.out _ (Below.refl _ _))); simp only [Act.put, List.setIfInBounds_toArray, List.set_cons_zero, List.set_cons_succ, Nat.reduceAdd, List.cons_append, List.nil_append])
            (apply Par.par_g; (focus (intro w6 hR hD K hK; replace hK := Lib.hid hK; skip; clear hR hD; go_simp; exact hK.out _ (Below.refl _ _))); simp only [Act.put, List.setIfInBounds_toArray, List.set_cons_zero, List.set_cons_succ, Nat.reduceAdd, List.cons_append, List.nil_append])
            (apply Par.par_g; (focus (intro w6 hR hD K hK; replace hK := Lib.hid hK; skip; clear hR hD; go_simp; exact hK.out _ (Below.refl _ _))); simp only [Act.put, List.setIfInBounds_toArray, List.set_cons_zero, List.set_cons_succ, Nat.reduceAdd, List.cons_append, List.nil_append])
            (apply Par.par_g; (focus (intro w6 hR hD K hK; replace hK := Lib.hid hK; have hc := (HRC.out w6 hR); have f0 : w6.cell? ⟨g, q * 7, none⟩ = some (.int .i64 mj.kind) := hc 0 _ rfl; have f1 := hc 1 _ rfl; have f2 := hc 2 _ rfl; have f3 := hc 3 _ rfl; have f4 := hc 4 _ rfl; have f5 := hc 5 _ rfl; have f6 := hc 6 _ rfl; clear hc; clear hR hD; go_simp; exact hK.out _ (Below.refl _ _))); simp only [Act.put, List.setIfInBounds_toArray, List.set_cons_zero, List.set_cons_succ, Nat.reduceAdd, List.cons_append, List.nil_append])
            (apply Par.par_g; (focus (intro w6 hR hD K hK; replace hK := Lib.hid hK; have hb := below_call HB9.out.drew hR; have HBW := Lib.hid hb; clear hR hD hb; go_simp; refine (same_any _ _ w6 _ _ mj (HV.out.still (Still.of_below HBW.out)) (HM8.out.still (Still.of_below HBW.out)) HF.out).mono ?_; rintro r w7 ⟨rfl, hb⟩; exact hK.out _ hb)); simp only [Act.put, List.setIfInBounds_toArray, List.set_cons_zero, List.set_cons_succ, Nat.reduceAdd, List.cons_append, List.nil_append])
            (apply Par.par_g; (focus (intro w6 hR hD K hK; replace hK := Lib.hid hK; skip; clear hR hD; go_simp; exact hK.out _ (Below.refl _ _))); simp only [Act.put, List.setIfInBounds_toArray, List.set_cons_zero, List.set_cons_succ, Nat.reduceAdd, List.cons_append, List.nil_append])
            (apply Par.par_x rfl; (focus (intro w6 hR hD K hK; replace hK := Lib.hid hK; skip; clear hR hD; go_simp; exact hK.out _ (Below.refl _ _))); simp only [Act.put, List.setIfInBounds_toArray, List.set_cons_zero, List.set_cons_succ, Nat.reduceAdd, List.cons_append, List.nil_append])
            (apply Par.par_x rfl; (focus (intro w6 hR hD K hK; replace hK := Lib.hid hK; skip; clear hR hD; go_simp; exact hK.out _ (Below.refl _ _))); simp only [Act.put, List.setIfInBounds_toArray, List.set_cons_zero, List.set_cons_succ, Nat.reduceAdd, List.cons_append, List.nil_append])
            (apply Par.par_g; (focus (intro w6 hR hD K hK; replace hK := Lib.hid hK; skip; clear hR hD; go_simp; exact hK.out _ (Below.refl _ _))); simp only [Act.put, List.setIfInBounds_toArray, List.set_cons_zero, List.set_cons_succ, Nat.reduceAdd, List.cons_append, List.nil_append])
            (apply Par.par_g; (focus (intro w6 hR hD K hK; replace hK := Lib.hid hK; have hb := below_call HB9.out.drew hR; have HBW := Lib.hid hb; clear hR hD hb; go_simp; refine (len_is _ w6 _ _ (HP8.out.below HBW.out) (k - (q + 1)) (by rw [List.length_drop, HLM.out])).mono ?_; rintro r w7 ⟨rfl, rfl⟩; exact hK.out _ (Below.refl _ _))); simp only [Act.put, List.setIfInBounds_toArray, List.set_cons_zero, List.set_cons_succ, Nat.reduceAdd, List.cons_append, List.nil_append])
            (apply Par.par_g; (focus (intro w6 hR hD K hK; replace hK := Lib.hid hK; skip; clear hR hD; go_simp; exact hK.out _ (Below.refl _ _))); simp only [Act.put, List.setIfInBounds_toArray, List.set_cons_zero, List.set_cons_succ, Nat.reduceAdd, List.cons_append, List.nil_append])
            (apply Par.par_g; (focus (intro w6 hR hD K hK; replace hK := Lib.hid hK; skip; clear hR hD; go_simp; exact hK.out _ (Below.refl _ _))); simp only [Act.put, List.setIfInBounds_toArray, List.set_cons_zero, List.set_cons_succ, Nat.reduceAdd, List.cons_append, List.nil_append])
            (apply Par.par_g; (focus (intro w6 hR hD K hK; replace hK := Lib.hid hK; skip; clear hR hD; go_simp; exact hK.out _ (Below.refl _ _))); simp only [Act.put, List.setIfInBounds_toArray, List.set_cons_zero, List.set_cons_succ, Nat.reduceAdd, List.cons_append, List.nil_append])
            (apply Par.par_g; (focus (intro w6 hR hD K hK; replace hK := Lib.hid hK; skip; clear hR hD; go_simp; exact hK.out _ (Below.refl _ _))); simp only [Act.put, List.setIfInBounds_toArray, List.set_cons_zero, List.set_cons_succ, Nat.reduceAdd, List.cons_append, List.nil_append])
            (apply Par.par_g; (focus (intro w6 hR hD K hK; replace hK := Lib.hid hK; skip; clear hR hD; go_simp; exact hK.out _ (Below.refl _ _))); simp only [Act.put, List.setIfInBounds_toArray, List.set_cons_zero, List.set_cons_succ, Nat.reduceAdd, List.cons_append, List.nil_append])
            (apply Par.par_g; (focus (intro w6 hR hD K hK; replace hK := Lib.hid hK; skip; clear hR hD; go_simp; exact hK.out _ (Below.refl _ _))); simp only [Act.put, List.setIfInBounds_toArray, List.set_cons_zero, List.set_cons_succ, Nat.reduceAdd, List.cons_append, List.nil_append])
            (apply Par.par_x rfl; (focus (intro w6 hR hD K hK; replace hK := Lib.hid hK; skip; clear hR hD; go_simp; exact hK.out _ (Below.refl _ _))); simp only [Act.put, List.setIfInBounds_toArray, List.set_cons_zero, List.set_cons_succ, Nat.reduceAdd, List.cons_append, List.nil_append])
            refine Par.par_end fun w6 hR hp => ?_
            clear hp
            have HB6 := Lib.hid (below_call HB9.out.drew hR)
            clear hR HRC
            go_wp2
            go_roundw
            case rel => exact ⟨q + 1, by go_num, by omega, HP8.out.below HB6.out, HROW8.out.still (Still.of_below HB6.out), HB8.out.trans (HB6.out.mono HB8.out.size)⟩
            case measure => simp [intOf]; omega
          · obtain rfl : q = k := by omega
            have hdr : L.drop q = [] := List.drop_of_length_le (by have := HLM.out; omega)
            have hp := HP.out
            rw [hdr] at hp
            have HP' := Lib.hid hp
            clear hp hdr
            go_wp2_with fail
            refine (take_any w.heap.size wr _ [] HP'.out HB.out.size 0).mono ?_
            rintro r w8 ⟨v, rfl, hv, hp8, hb8, hs8⟩
            obtain ⟨a1, c1, a2, c2, rfl⟩ := msg_agg hv
            have HP8 : Hid (PostAt w.heap.size w8 (.pointer (some ⟨b, 0, none⟩)) []) := hp8
            have HB8 := Lib.hid (HB.out.trans hb8)
            rw [show decide ((0 : Int) ≤ 0 ∧ (0 : Int) < (([] : List MsgM).length : Int)) = false from rfl]
            clear hv hp8 hb8 hs8
            go_wp2_with fail
            generalize hw9 : World.alloc w8 _ = w9
            have hb9 : Below w8.heap.size w8 w9 := by rw [← hw9]; exact below_alloc' (Below.refl _ _) _
            clear hw9
            have HB9 := Lib.hid (HB8.out.trans (hb9.mono HB8.out.size))
            have HP9 := Lib.hid (HP8.out.below hb9)
            clear hb9
            refine (len_is _ w9 _ [] HP9.out 0 rfl).mono ?_
            rintro r w10 ⟨rfl, rfl⟩
            go_wp2_with fail
            refine (copy_no w.heap.size w9 _ [] HP9.out HB9.out.size 0 (by simp)).mono ?_
            rintro r w11 ⟨rfl, _, hb11, _⟩
            have HB11 := Lib.hid (HB9.out.trans hb11)
            clear hb11
            go_wp2
            go_ret
            exact ⟨rfl, HB11.out.mono (Nat.le_refl _)⟩

theorem postDrain_row (a0 : Option Addr) (len0 cap0 : Nat) (z0 : List Int) (a1 : Option Addr) (len1 cap1 : Nat) (z1 : List Int) (w : World) (w0 : IsRow .i64 w a0 len0 cap0 z0) (y0 : len0 * 8 ≤ 140737488351232) (w1 : IsRow .i64 w a1 len1 cap1 z1) (y1 : len1 * 8 ≤ 140737488351232) (ht : Tabs w) :
    Calls Tryd.prog 9 #[.slice a0 len0 cap0, .slice a1 len1 cap1] w fun e w' => e = .returned (.bool true) ∧ Below w.heap.size w w' :=
  postDrain_any _ _ _ _ w (nums_row w0 y0) (nums_row w1 y1) ht
end Go.Proofs.YtpkkjonajimefaaDoor
