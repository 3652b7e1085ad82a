/- PostOrder: the law's walk. -/
import Derived.Test.YtpkkjonajimefaaDoorA
import Derived.BigQuiet
import Derived.Deep.QuietTactic
set_option linter.unusedVariables false
set_option linter.unusedSimpArgs false
namespace Go.Proofs.YtpkkjonajimefaaDoor
open Go.RowKit

def upto (k : Nat) : List Int := (List.range k).map fun i => ((i + 1 : Nat) : Int)
theorem upto_len (k : Nat) : (upto k).length = k := by simp [upto]
theorem upto_succ (k : Nat) : upto (k + 1) = upto k ++ [((k + 1 : Nat) : Int)] := by simp [upto, List.range_succ]
theorem upto_get {k i : Nat} (h : i < k) : (upto k).getD i 0 = ((i + 1 : Nat) : Int) := by simp [upto, List.getD_eq_getElem?_getD, h]
theorem acks_one {w : World} {g j : Nat} (h : w.heap[g]? = some (.cells (ackV j).toArray 26 (0, 0))) : MsgsAt w (.slice (some ⟨g, 0, none⟩) 1 1) [ackN j] :=
  ⟨fun _ => ackV j, own_lit h rfl (by decide) (Nat.zero_le _), fun i hi => by
    obtain rfl : i = 0 := by simpa using hi
    exact ⟨rfl, ackN_at _ _ _, ackN_few _⟩⟩
theorem acks_sent {k : Nat} (h : k < 200) : sent (acks k) [ackN (k + 1)] = acks (k + 1) := by
  rw [acks_succ]
  show (if (acks k).length < 200 then _ else _) = _
  rw [acks_len, if_pos h]

set_option maxHeartbeats 8000000 in
set_option maxRecDepth 100000 in
theorem postOrder_any (n at' : Int) (copied : Bool) (w : World) (ht : Tabs w) : Calls Tryd.prog 7 #[.int .i64 n, .int .i64 at', .bool copied] w fun e w' => e = .returned (.bool true) ∧ Below w.heap.size w w' := by
  have HT := Lib.hid ht
  clear ht
  obtain ⟨k, hk, hk1, hk2⟩ : ∃ k : Nat, 1 + n % 30 = k ∧ 1 ≤ k ∧ k < 31 := ⟨(1 + n % 30).toNat, by omega, by omega, by omega⟩
  obtain ⟨a, hak, ha2⟩ : ∃ a : Nat, at' % (k : Int) = a ∧ a < k := ⟨(at' % (k : Int)).toNat, by have := Int.emod_nonneg at' (show (k : Int) ≠ 0 by omega); omega, by have := Int.emod_nonneg at' (show (k : Int) ≠ 0 by omega); have := Int.emod_lt_of_pos at' (show (0 : Int) < k by omega); omega⟩
  have HK := Lib.hid hk
  have HAK := Lib.hid hak
  have kwk : IntKind.i64.wrap (1 + n % 30) = k := (kwid (by omega) (by omega)).trans hk
  have hk0 : (0 : Int) < k := by omega
  have hkb : (k : Int) ≤ 4611686018427387904 := by omega
  clear hk hak
  go_enter Tryd.func7, Tryd.ntmps7
  go_wp2_with (first | (go_at_call 10; refine (known_any _ HT.out).mono ?_; rintro r w1 ⟨rfl, hb⟩; have HB1 := Lib.hid hb; clear hb) | (go_at_call 15; refine (new_any _).mono ?_; rintro r w2 ⟨b, rfl, hp, hb⟩; have HP2 := Lib.hid (hp.base HB1.out.size); have HB2 := Lib.hid (below_call HB1.out hb); clear hp hb) | (go_at_call 12; refine (within12_any _ _ (by omega) (by omega) _).mono ?_; rintro r w7 ⟨rfl, rfl⟩))
  go_loopw [9, 10] (fun v i wr => ∃ j : Nat, i = .int .i64 (j + 1 : Nat) ∧ j ≤ k ∧ Ints w.heap.size wr v (upto j) ∧ PostAt w.heap.size wr (.pointer (some ⟨b, 0, none⟩)) (acks j) ∧ Below w.heap.size w wr) (fun _ i _ => k + 1 - (intOf i).toNat)
  case atStart => exact ⟨0, rfl, Nat.zero_le _, World.ownsRow_nil _ _ _ _, HP2.out, HB2.out⟩
  case round =>
    obtain ⟨j, rfl, hj, hrow, hp, hb⟩ := hrel
    have HROW := Lib.hid hrow
    have HP := Lib.hid hp
    have HB := Lib.hid hb
    clear hrow hp hb
    by_cases hlt : j < k
    · have hlt' : ((j + 1 : Nat) : Int) ≤ (k : Int) := by omega
      go_wp2_with (go_at_call 22; fail)
      generalize hw3 : World.alloc wr _ = w3
      have hb3 : Below wr.heap.size wr w3 := by rw [← hw3]; exact below_alloc' (Below.refl _ _) _
      have z3 : w3.heap[wr.heap.size]? = some (.cells (ackV (j + 1)).toArray 26 (0, 0)) := by rw [← hw3]; exact alloc_at _ _
      clear hw3
      have hB3 := HB.out.trans (hb3.mono HB.out.size)
      refine (send_any w.heap.size w3 _ (acks j) (HP.out.below hb3) hB3.size _ [ackN (j + 1)] (acks_one z3) (by simp)).mono ?_
      rintro e w4 ⟨rfl, hp4, hb4, hs4⟩
      rw [acks_sent (by omega)] at hp4
      have HP4 := Lib.hid hp4
      have HB4 := Lib.hid (hB3.trans hb4)
      have hrow4 : Ints w.heap.size w4 _ (upto j) := own_still (own_below HROW.out hb3) hs4 ⟨by decide, by decide⟩
      unfold Ints at hrow4
      rw [upto_len] at hrow4
      have HROW4 := Lib.hid hrow4
      clear hp4 hb4 hs4 z3 hB3 hb3 hrow4
      go_wp2_with (at_builtin; refine list_app_but elt_ints _ _ rfl rfl rfl rfl (World.ownsRow.alloc HROW4.out _) (alloc_at _ _) rfl (by omega) (by have := HB4.out.size; simp; omega) ?_; intro v' w6 hown hbut; have HO6 := Lib.hid hown; have HG6 := Lib.hid hbut; clear hown hbut)
      go_roundw
      case rel =>
        have hal := below_alloc' (Below.refl w4.heap.size w4) (.cells #[.int .i64 ((j : Int) + 1)] 3)
        have hst := butO_still HG6.out (own_row (World.ownsRow.alloc HROW4.out _))
        refine ⟨j + 1, by go_num, by omega, ?_, (HP4.out.below hal).butO (acks_bare _) HG6.out hst, butO_below HG6.out (HB4.out.trans (hal.mono HB4.out.size)) (by have := HB4.out.size; simp; omega) (fun g hg => (HROW4.out.lt g hg).1)⟩
        have := HO6.out
        unfold Ints
        rw [upto_succ, List.length_append, upto_len, List.map_append]
        exact this
      case measure => simp [intOf]; omega
    · obtain rfl : j = k := by omega
      have hgt : ¬ ((j + 1 : Nat) : Int) ≤ (j : Int) := by omega
      have hrowj := HROW.out
      unfold Ints at hrowj
      rw [upto_len] at hrowj
      obtain ⟨g, cap, rfl, hgb, hgs⟩ := (own_forms hrowj).resolve_left (by rintro ⟨_, h, _⟩; omega)
      have hjc : j ≤ cap := by
        obtain ⟨_, _, _, e, _, _, hc, _⟩ := hrowj.2.resolve_left (by rintro ⟨h, _⟩; cases h)
        injection e with _ _ e3
        omega
      have haj : (a : Int) < j := by omega
      have hcl : ∀ q, q < j → wr.cell? ⟨g, q, none⟩ = some (.int .i64 ((q + 1 : Nat) : Int)) := fun q hq => by
        rw [hrowj.cellAt q (by omega), List.getElem?_map]
        have := upto_get hq
        rw [List.getD_eq_getElem?_getD] at this
        rw [List.getElem?_eq_getElem (by rw [upto_len]; exact hq)] at this ⊢
        simpa using this
      have HCL := Lib.hid hcl
      have HROWJ := Lib.hid hrowj
      clear hrowj hcl HROW
      cases copied
      · have ka1 : IntKind.i64.wrap ((a : Int) + 1) = ((a + 1 : Nat) : Int) := (kwid (by omega) (by omega)).trans (by omega)
        have haj1 : (a : Int) ≤ cap := by omega
        have haj2 : ((a : Int) + 1) ≤ j := by omega
        go_wp2_with (first | (go_at_call 12; refine (within12_any _ _ hk0 hkb _).mono ?_; rw [HAK.out]; rintro r w7 ⟨rfl, rfl⟩) | (go_at_call 17; refine (take_gang w.heap.size _ _ (acks j) HP.out HB.out.size a (by rw [acks_len]; exact ha2) ((a + 1 : Nat) : Int) (by rw [acks_get ha2]; rfl)).mono ?_; rintro r w5 ⟨kd', sr', ds', a1', l1', c1', a2', l2', c2', y', rfl, hp, hb, hs⟩; have HP5 := Lib.hid hp; have HB5 := Lib.hid (HB.out.trans hb); have HROW5 := Lib.hid (own_still HROWJ.out hs ⟨by decide, by decide⟩); clear hp hb hs))
        generalize hwq : World.alloc w5 _ = wq
        have hb6 : Below w5.heap.size w5 wq := by rw [← hwq]; exact below_alloc' (Below.refl _ _) _
        clear hwq
        have HP6 := Lib.hid (HP5.out.below hb6)
        have HB6 := Lib.hid (HB5.out.trans (hb6.mono HB5.out.size))
        have hrowq : wq.ownsRow w.heap.size 3 1 (.slice (some ⟨g, 0, none⟩) j cap) j ((upto j).map (Value.int .i64)) := own_below HROW5.out hb6
        have hc6 : ∀ q, q < j → wq.cell? ⟨g, q, none⟩ = some (.int .i64 ((q + 1 : Nat) : Int)) := fun q hq => (hrowq.cellAt q (by omega)).trans ((HROWJ.out.cellAt q (by omega)).symm.trans (HCL.out q hq))
        obtain ⟨A, hA, hnews⟩ : ∃ A : Addr, (if cap = a + 1 then (some ⟨g, 0, none⟩ : Option Addr) else some ⟨g, a + 1, none⟩) = some A ∧ ∀ w7, Below wq.drew.heap.size wq.drew w7 → ∀ q u, (((upto j).drop (a + 1)).map (Value.int .i64))[q]? = some u → w7.cell? (A.add q) = some u := by
          by_cases h : cap = a + 1
          · refine ⟨_, by rw [if_pos h], fun w7 h7 q u hu => ?_⟩
            have h0 : ((upto j).drop (a + 1)).length = 0 := by rw [List.length_drop, upto_len]; omega
            rw [List.length_eq_zero_iff.1 h0] at hu
            simp at hu
          · refine ⟨_, by rw [if_neg h], fun w7 h7 q u hu => ?_⟩
            rw [show (⟨g, a + 1, none⟩ : Addr).add q = ⟨g, a + 1 + q, none⟩ by unfold Addr.add; split <;> simp_all]
            have hq : a + 1 + q < j := by
              have := (List.getElem?_eq_some_iff.1 hu).1
              simp [upto_len] at this
              omega
            refine cell_below (w := wq.drew) ((hrowq.cellAt (a + 1 + q) (by omega)).trans ?_) h7
            rw [← hu]
            simp [List.getElem?_drop]
        have hnew0 : ∀ w7, Below wq.drew.heap.size wq.drew w7 → ∀ q u, (((upto j).take a).map (Value.int .i64))[q]? = some u → w7.cell? ((⟨g, 0, none⟩ : Addr).add q) = some u := fun w7 h7 q u hu => by
          rw [show (⟨g, 0, none⟩ : Addr).add q = ⟨g, q, none⟩ by unfold Addr.add; split <;> simp_all]
          have hq : q < a := by
            have := (List.getElem?_eq_some_iff.1 hu).1
            simp at this
            omega
          refine cell_below (w := wq.drew) ((hrowq.cellAt q (by omega)).trans ?_) h7
          rw [← hu]
          simp [List.getElem?_take_of_lt hq]
        have HN0 := Lib.hid hnew0
        have HN1 := Lib.hid hnews
        have HA := Lib.hid hA
        clear hb6 hrowq hc6 hnews hnew0 hA
        refine' Par.wp_region_pars (fun w w' => Below w.heap.size w w') 9 (by kernel_rfl) (by kernel_rfl) (by kernel_rfl) (by kernel_rfl) (by kernel_rfl) (by kernel_rfl)
          (fun w => Below.refl _ w) (fun h k => below_call h k) (fun vals => ?_)
        rotate_left
        simp only [List.take_succ_cons, List.take_zero, List.drop_succ_cons, List.drop_zero]
        (apply Par.par_r (fun v w' => ∃ g0, v = .slice (some ⟨g0, 0, none⟩) 0 0) rfl (fun v w1 w2 h k => h); (focus (intro w6 hR hD K hK; replace hK := Lib.hid hK; clear hR hD; go_simp; exact hK.out _ _ (below_alloc' (Below.refl _ _) _) ⟨_, rfl⟩)); simp only [Act.put, List.setIfInBounds_toArray, List.set_cons_zero, List.set_cons_succ, Nat.reduceAdd, List.cons_append, List.nil_append])
        (apply Par.par_x rfl; (focus (intro w6 hR hD K hK; replace hK := Lib.hid hK; skip; clear hR hD; go_simp; exact hK.out _ (Below.refl _ _))); simp only [Act.put, List.setIfInBounds_toArray, List.set_cons_zero, List.set_cons_succ, Nat.reduceAdd, List.cons_append, List.nil_append])
        (apply Par.par_x rfl; (focus (intro w6 hR hD K hK; replace hK := Lib.hid hK; skip; clear hR hD; go_simp; exact hK.out _ (Below.refl _ _))); simp only [Act.put, List.setIfInBounds_toArray, List.set_cons_zero, List.set_cons_succ, Nat.reduceAdd, List.cons_append, List.nil_append])
        (apply Par.par_x rfl; (focus (intro w6 hR hD K hK; replace hK := Lib.hid hK; skip; clear hR hD; go_simp; exact hK.out _ (Below.refl _ _))); simp only [Act.put, List.setIfInBounds_toArray, List.set_cons_zero, List.set_cons_succ, Nat.reduceAdd, List.cons_append, List.nil_append])
        (apply Par.par_r (fun v w' => (a = 0 ∧ ∃ g0, v = .slice (some ⟨g0, 0, none⟩) 0 0) ∨ w'.ownsRow wq.heap.size 3 1 v a (((upto j).take a).map (Value.int .i64))) rfl (fun v w1 w2 h k => h.imp id fun h => own_below h k); (focus (intro w6 hR hD K hK; replace hK := Lib.hid hK; obtain ⟨g0, e0⟩ : ∃ g0, vals 0 = .slice (some ⟨g0, 0, none⟩) 0 0 := hD 0 (by kernel_rfl); simp only [e0] at hK ⊢; exact wp_app_empty elt_ints (.tmp 69) (.tmp 72) rfl (g := g0) (m := a) (c := cap) (ax := some ⟨g, 0, none⟩) (news := ((upto j).take a).map (Value.int .i64)) rfl rfl (.inr ⟨_, rfl, HN0.out _ hR⟩) (by simp [upto_len]; omega) (fun u hu => by (obtain ⟨x, _, rfl⟩ := List.mem_map.1 hu); rfl) (by omega) fun v' w' h1 h2 => hK.out v' w' h2 (h1.imp (fun h => ⟨h.1, g0, h.2⟩) fun h => own_base h hR.size))); simp only [Act.put, List.setIfInBounds_toArray, List.set_cons_zero, List.set_cons_succ, Nat.reduceAdd, List.cons_append, List.nil_append])
        (apply Par.par_x rfl; (focus (intro w6 hR hD K hK; replace hK := Lib.hid hK; skip; clear hR hD; go_simp; exact hK.out _ (Below.refl _ _))); simp only [Act.put, List.setIfInBounds_toArray, List.set_cons_zero, List.set_cons_succ, Nat.reduceAdd, List.cons_append, List.nil_append])
        (apply Par.par_x rfl; (focus (intro w6 hR hD K hK; replace hK := Lib.hid hK; skip; clear hR hD; go_simp; exact hK.out _ (Below.refl _ _))); simp only [Act.put, List.setIfInBounds_toArray, List.set_cons_zero, List.set_cons_succ, Nat.reduceAdd, List.cons_append, List.nil_append])
        (apply Par.par_x rfl; (focus (intro w6 hR hD K hK; replace hK := Lib.hid hK; skip; clear hR hD; go_simp; exact hK.out _ (Below.refl _ _))); simp only [Act.put, List.setIfInBounds_toArray, List.set_cons_zero, List.set_cons_succ, Nat.reduceAdd, List.cons_append, List.nil_append])
        (apply Par.par_x rfl; (focus (intro w6 hR hD K hK; replace hK := Lib.hid hK; skip; clear hR hD; go_simp; exact hK.out _ (Below.refl _ _))); simp only [Act.put, List.setIfInBounds_toArray, List.set_cons_zero, List.set_cons_succ, Nat.reduceAdd, List.cons_append, List.nil_append])
        refine Par.par_end fun w7 hR hp => ?_
        have h4 : (a = 0 ∧ ∃ g0, vals 4 = .slice (some ⟨g0, 0, none⟩) 0 0) ∨ w7.ownsRow wq.heap.size 3 1 (vals 4) a (((upto j).take a).map (Value.int .i64)) := hp 4 (by simp)
        clear hp
        have HR7 := Lib.hid (show Below wq.heap.size wq w7 from below_call (Below.refl _ wq).drew hR)
        have HN7 := Lib.hid (HN1.out w7 hR)
        have hWl : ((upto j).eraseIdx a).length = j - 1 := by rw [List.length_eraseIdx_of_lt (by rw [upto_len]; exact ha2), upto_len]
        have hWe : (upto j).eraseIdx a = (upto j).take a ++ (upto j).drop (a + 1) := List.eraseIdx_eq_take_drop_succ ..
        obtain ⟨M, hM⟩ : ∃ M, j - 1 = M := ⟨_, rfl⟩
        obtain ⟨L, hL⟩ : ∃ L, (acks j).eraseIdx a = L := ⟨_, rfl⟩
        obtain ⟨W, hW⟩ : ∃ W, (upto j).eraseIdx a = W := ⟨_, rfl⟩
        have HWM : Hid (W.length = M) := Lib.hid (by rw [← hW, ← hM]; exact hWl)
        have HLM : Hid (L.length = M) := Lib.hid (by rw [← hL, ← hM, List.length_eraseIdx_of_lt (by rw [acks_len]; exact ha2), acks_len])
        have HG : Hid (∀ i, i < M → (L.getD i noMsg).gang = W.getD i 0) := Lib.hid fun i hi => by
          rw [← hL, ← hW, eraseIdx_getD]
          simp only [List.getD_eq_getElem?_getD, List.getElem?_eraseIdx]
          split
          · rw [← List.getD_eq_getElem?_getD, ← List.getD_eq_getElem?_getD, acks_get (by omega), upto_get (by omega)]
            rfl
          · rw [← List.getD_eq_getElem?_getD, ← List.getD_eq_getElem?_getD, acks_get (by omega), upto_get (by omega)]
            rfl
        have hMj : M ≤ 31 := by omega
        have HPL : Hid (PostAt w.heap.size wq (.pointer (some ⟨b, 0, none⟩)) L) := Lib.hid (by rw [← hL]; exact HP6.out)
        have HWE : Hid (W = (upto j).take a ++ (upto j).drop (a + 1)) := Lib.hid (by rw [← hW]; exact hWe)
        have hjm : j - (a + 1) ≤ 31 := by omega
        have hM1 : a + (j - (a + 1)) = M := by omega
        have HM1 := Lib.hid hM1
        clear hWl hWe hL hW hR hM hM1 haj haj1 haj2 ka1
        simp only [HA.out]
        rcases h4 with ⟨rfl, g0, e4⟩ | h4
        · simp only [e4]
          go_wp2_with (at_builtin; refine list_app_empty elt_ints (.tmp 73) (.tmp 77) rfl rfl (g := g0) (m := j - (0 + 1)) (c := cap - (0 + 1)) (news := ((upto j).drop (0 + 1)).map (Value.int .i64)) rfl rfl (.inr ⟨A, rfl, HN7.out⟩) (by simp [upto_len]) (fun u hu => by (obtain ⟨x, _, rfl⟩ := List.mem_map.1 hu); rfl) (by omega) ?_; intro v' w8 hv hb8; have HV8 := Lib.hid hv; have HB8 := Lib.hid hb8; clear hv hb8)
          obtain ⟨wa, wc, rfl, hnums⟩ : ∃ wa wc, v' = .slice wa M wc ∧ Nums w8 v' W := by
            have hm := HM1.out
            rcases HV8.out with ⟨h0, rfl⟩ | hown
            · have h00 : M = 0 := by omega
              refine ⟨some ⟨g0, 0, none⟩, 0, by rw [h00], some ⟨g0, 0, none⟩, 0, by rw [HWM.out, h00], by rw [HWM.out]; omega, fun i hi => ?_⟩
              rw [HWM.out] at hi
              omega
            · have : Ints w7.heap.size w8 v' W := by
                unfold Ints
                rw [HWM.out, HWE.out, show M = j - (0 + 1) by omega, List.take_zero, List.nil_append]
                exact hown
              have h2 := Nums.of_own this (by rw [HWM.out]; omega)
              obtain ⟨wa, wc, e, _⟩ := h2
              exact ⟨wa, wc, by rw [e, HWM.out], Nums.of_own this (by rw [HWM.out]; omega)⟩
          have HWF := Lib.hid hnums
          have HPF := Lib.hid ((HPL.out.below HR7.out).below HB8.out)
          have HBF := Lib.hid (HB6.out.trans ((below_call HR7.out HB8.out).mono HB6.out.size))
          clear hnums HV8
          have hML : M < 40 := by omega
          refine (len_is _ _ _ _ HPF.out M HLM.out).mono ?_
          rintro r w10 ⟨rfl, rfl⟩
          go_wp2
          go_loopw [14] (fun i wr => ∃ q : Nat, i = .int .i64 q ∧ q ≤ M ∧ PostAt w.heap.size wr (.pointer (some ⟨b, 0, none⟩)) L ∧ Nums wr (.slice wa M wc) W ∧ Below w.heap.size w wr) (fun i _ => M - (intOf i).toNat)
          case atStart => exact ⟨0, rfl, Nat.zero_le _, HPF.out, HWF.out, HBF.out⟩
          case round =>
            clear HPF HWF HBF
            obtain ⟨q, rfl, hq, hp, hrow, hb⟩ := hrel
            have HP := Lib.hid hp
            have HROW := Lib.hid hrow
            have HB := Lib.hid hb
            clear hp hrow hb
            by_cases hqt : q < M
            · have hqt' : (q : Int) < M := by omega
              obtain ⟨v, hv⟩ : ∃ v, W.getD q 0 = v := ⟨_, rfl⟩
              have HGQ : Hid ((L.getD q noMsg).gang = v) := Lib.hid (by rw [HG.out q hqt, hv])
              obtain ⟨bb, off, rfl, hcl⟩ : ∃ bb off, wa = some ⟨bb, off, none⟩ ∧ wr.cell? ⟨bb, off + q, none⟩ = some (.int .i64 v) := by
                obtain ⟨a', c', e, _, h⟩ := HROW.out
                injection e with e1 e2 e3
                subst e1
                obtain ⟨bb, off, h1, h2⟩ := h q (by rw [HWM.out]; exact hqt)
                exact ⟨bb, off, h1, by rw [h2, hv]⟩
              have HCL := Lib.hid hcl
              clear hv hcl
              go_wp2_with (go_at_call 25; refine (at_gang w.heap.size _ _ L HP.out q (by rw [HLM.out]; exact hqt) v HGQ.out).mono ?_; rintro r w8 ⟨kd', sr', ds', a1', l1', c1', a2', l2', c2', y', rfl, hb⟩; have HB8 := Lib.hid hb; clear hb)
              generalize hw9 : World.alloc w8 _ = w9
              have hb9 : Below w8.heap.size w8 w9 := by rw [← hw9]; exact below_alloc' (Below.refl _ _) _
              have z9 : w9.heap[w8.heap.size]? = some (.cells #[.int .i64 kd', .int .i64 sr', .int .i64 ds', .int .i64 v, .slice a1' l1' c1', .slice a2' l2' c2', .bool y'] 26 (0, 0)) := by rw [← hw9]; exact alloc_at _ _
              clear hw9
              have HBB := Lib.hid (below_call HB8.out hb9)
              have hfacts : ∀ w6, Below w9.drew.heap.size w9.drew w6 → w6.cell? ⟨w8.heap.size, 3, none⟩ = some (.int .i64 v) ∧ w6.cell? ⟨bb, off + q, none⟩ = some (.int .i64 v) := fun w6 h => ⟨cell_of_block (block_below (w := w9.drew) z9 h) 3 _ rfl, cell_below (w := w9.drew) (cell_below HCL.out HBB.out.drew) h⟩
              have HF := Lib.hid hfacts
              clear hb9 z9 hfacts
              refine' Par.wp_region_pars (fun w w' => Below w.heap.size w w') 11 (by kernel_rfl) (by kernel_rfl) (by kernel_rfl) (by kernel_rfl) (by kernel_rfl) (by kernel_rfl)
                (fun w => Below.refl _ w) (fun h k => below_call h k) (fun vals => ?_)
              rotate_left
              simp only [List.take_succ_cons, List.take_zero, List.drop_succ_cons, List.drop_zero]
              (apply Par.par_x rfl; (focus (intro w6 hR hD K hK; replace hK := Lib.hid hK; skip; clear hR hD; go_simp; exact hK.out _ (Below.refl _ _))); simp only [Act.put, List.setIfInBounds_toArray, List.set_cons_zero, List.set_cons_succ, Nat.reduceAdd, List.cons_append, List.nil_append])
              (apply Par.par_x rfl; (focus (intro w6 hR hD K hK; replace hK := Lib.hid hK; skip; clear hR hD; go_simp; exact hK.out _ (Below.refl _ _))); simp only [Act.put, List.setIfInBounds_toArray, List.set_cons_zero, List.set_cons_succ, Nat.reduceAdd, List.cons_append, List.nil_append])
              (apply Par.par_x rfl; (focus (intro w6 hR hD K hK; replace hK := Lib.hid hK; skip; clear hR hD; go_simp; exact hK.out _ (Below.refl _ _))); simp only [Act.put, List.setIfInBounds_toArray, List.set_cons_zero, List.set_cons_succ, Nat.reduceAdd, List.cons_append, List.nil_append])
              (apply Par.par_g; (focus (intro w6 hR hD K hK; replace hK := Lib.hid hK; obtain ⟨e0, e1⟩ := HF.out w6 hR; clear hR hD; go_simp; exact hK.out _ (Below.refl _ _))); simp only [Act.put, List.setIfInBounds_toArray, List.set_cons_zero, List.set_cons_succ, Nat.reduceAdd, List.cons_append, List.nil_append])
              (apply Par.par_g; (focus (intro w6 hR hD K hK; replace hK := Lib.hid hK; obtain ⟨e0, e1⟩ := HF.out w6 hR; clear hR hD; go_simp; exact hK.out _ (Below.refl _ _))); simp only [Act.put, List.setIfInBounds_toArray, List.set_cons_zero, List.set_cons_succ, Nat.reduceAdd, List.cons_append, List.nil_append])
              (apply Par.par_g; (focus (intro w6 hR hD K hK; replace hK := Lib.hid hK; obtain ⟨e0, e1⟩ := HF.out w6 hR; clear hR hD; go_simp; exact hK.out _ (Below.refl _ _))); simp only [Act.put, List.setIfInBounds_toArray, List.set_cons_zero, List.set_cons_succ, Nat.reduceAdd, List.cons_append, List.nil_append])
              (apply Par.par_g; (focus (intro w6 hR hD K hK; replace hK := Lib.hid hK; obtain ⟨e0, e1⟩ := HF.out w6 hR; clear hR hD; go_simp; exact hK.out _ (Below.refl _ _))); simp only [Act.put, List.setIfInBounds_toArray, List.set_cons_zero, List.set_cons_succ, Nat.reduceAdd, List.cons_append, List.nil_append])
              (apply Par.par_g; (focus (intro w6 hR hD K hK; replace hK := Lib.hid hK; obtain ⟨e0, e1⟩ := HF.out w6 hR; clear hR hD; go_simp; exact hK.out _ (Below.refl _ _))); simp only [Act.put, List.setIfInBounds_toArray, List.set_cons_zero, List.set_cons_succ, Nat.reduceAdd, List.cons_append, List.nil_append])
              (apply Par.par_g; (focus (intro w6 hR hD K hK; replace hK := Lib.hid hK; obtain ⟨e0, e1⟩ := HF.out w6 hR; clear hR hD; go_simp; exact hK.out _ (Below.refl _ _))); simp only [Act.put, List.setIfInBounds_toArray, List.set_cons_zero, List.set_cons_succ, Nat.reduceAdd, List.cons_append, List.nil_append])
              (apply Par.par_g; (focus (intro w6 hR hD K hK; replace hK := Lib.hid hK; obtain ⟨e0, e1⟩ := HF.out w6 hR; clear hR hD; go_simp; exact hK.out _ (Below.refl _ _))); simp only [Act.put, List.setIfInBounds_toArray, List.set_cons_zero, List.set_cons_succ, Nat.reduceAdd, List.cons_append, List.nil_append])
              (apply Par.par_x rfl; (focus (intro w6 hR hD K hK; replace hK := Lib.hid hK; skip; clear hR hD; go_simp; exact hK.out _ (Below.refl _ _))); simp only [Act.put, List.setIfInBounds_toArray, List.set_cons_zero, List.set_cons_succ, Nat.reduceAdd, List.cons_append, List.nil_append])
              refine Par.par_end fun w6 hR hp => ?_
              clear hp
              have HB6 := Lib.hid (below_call HBB.out.drew hR)
              clear hR HF
              go_wp2
              go_roundw
              case rel =>
                exact ⟨q + 1, by go_num, by omega, HP.out.below HB6.out, HROW.out.below HB6.out, HB.out.trans (HB6.out.mono HB.out.size)⟩
              case measure => simp [intOf]; omega
            · obtain rfl : q = M := by omega
              go_wp2
              go_ret
              exact ⟨rfl, HB.out.mono (Nat.le_refl _)⟩
        · have H4 := Lib.hid h4
          clear h4
          go_wp2_with (at_builtin; refine list_appendsA elt_ints (.tmp 73) (.tmp 77) rfl rfl rfl rfl H4.out (show (((upto j).drop (a + 1)).map (Value.int .i64)).length = (j - (a + 1)) * 1 by simp [upto_len]) HN7.out (fun u hu => by (obtain ⟨x, _, rfl⟩ := List.mem_map.1 hu); rfl) (by omega) HR7.out.size ?_; intro v' w8 hv hg8; have HV8 := Lib.hid hv; have HG8 := Lib.hid hg8; clear hv hg8)
          have hb8 : Below wq.heap.size wq w8 := HR7.out.grown HG8.out HR7.out.size (fun k hk => (H4.out.lt k hk).1)
          obtain ⟨wa, wc, rfl, hnums⟩ : ∃ wa wc, v' = .slice wa M wc ∧ Nums w8 v' W := by
            have hm := HM1.out
            have : Ints wq.heap.size w8 v' W := by
              unfold Ints
              rw [HWM.out, HWE.out, ← HM1.out, List.map_append]
              exact HV8.out
            have h2 := Nums.of_own this (by rw [HWM.out]; omega)
            obtain ⟨wa, wc, e, _⟩ := h2
            exact ⟨wa, wc, by rw [e, HWM.out], Nums.of_own this (by rw [HWM.out]; omega)⟩
          have HWF := Lib.hid hnums
          have HPF := Lib.hid (HPL.out.below hb8)
          have HBF := Lib.hid (HB6.out.trans (hb8.mono HB6.out.size))
          clear hnums HV8 HG8 hb8
          have hML : M < 40 := by omega
          refine (len_is _ _ _ _ HPF.out M HLM.out).mono ?_
          rintro r w10 ⟨rfl, rfl⟩
          go_wp2
          go_loopw [14] (fun i wr => ∃ q : Nat, i = .int .i64 q ∧ q ≤ M ∧ PostAt w.heap.size wr (.pointer (some ⟨b, 0, none⟩)) L ∧ Nums wr (.slice wa M wc) W ∧ Below w.heap.size w wr) (fun i _ => M - (intOf i).toNat)
          case atStart => exact ⟨0, rfl, Nat.zero_le _, HPF.out, HWF.out, HBF.out⟩
          case round =>
            clear HPF HWF HBF
            obtain ⟨q, rfl, hq, hp, hrow, hb⟩ := hrel
            have HP := Lib.hid hp
            have HROW := Lib.hid hrow
            have HB := Lib.hid hb
            clear hp hrow hb
            by_cases hqt : q < M
            · have hqt' : (q : Int) < M := by omega
              obtain ⟨v, hv⟩ : ∃ v, W.getD q 0 = v := ⟨_, rfl⟩
              have HGQ : Hid ((L.getD q noMsg).gang = v) := Lib.hid (by rw [HG.out q hqt, hv])
              obtain ⟨bb, off, rfl, hcl⟩ : ∃ bb off, wa = some ⟨bb, off, none⟩ ∧ wr.cell? ⟨bb, off + q, none⟩ = some (.int .i64 v) := by
                obtain ⟨a', c', e, _, h⟩ := HROW.out
                injection e with e1 e2 e3
                subst e1
                obtain ⟨bb, off, h1, h2⟩ := h q (by rw [HWM.out]; exact hqt)
                exact ⟨bb, off, h1, by rw [h2, hv]⟩
              have HCL := Lib.hid hcl
              clear hv hcl
              go_wp2_with (go_at_call 25; refine (at_gang w.heap.size _ _ L HP.out q (by rw [HLM.out]; exact hqt) v HGQ.out).mono ?_; rintro r w8 ⟨kd', sr', ds', a1', l1', c1', a2', l2', c2', y', rfl, hb⟩; have HB8 := Lib.hid hb; clear hb)
              generalize hw9 : World.alloc w8 _ = w9
              have hb9 : Below w8.heap.size w8 w9 := by rw [← hw9]; exact below_alloc' (Below.refl _ _) _
              have z9 : w9.heap[w8.heap.size]? = some (.cells #[.int .i64 kd', .int .i64 sr', .int .i64 ds', .int .i64 v, .slice a1' l1' c1', .slice a2' l2' c2', .bool y'] 26 (0, 0)) := by rw [← hw9]; exact alloc_at _ _
              clear hw9
              have HBB := Lib.hid (below_call HB8.out hb9)
              have hfacts : ∀ w6, Below w9.drew.heap.size w9.drew w6 → w6.cell? ⟨w8.heap.size, 3, none⟩ = some (.int .i64 v) ∧ w6.cell? ⟨bb, off + q, none⟩ = some (.int .i64 v) := fun w6 h => ⟨cell_of_block (block_below (w := w9.drew) z9 h) 3 _ rfl, cell_below (w := w9.drew) (cell_below HCL.out HBB.out.drew) h⟩
              have HF := Lib.hid hfacts
              clear hb9 z9 hfacts
              refine' Par.wp_region_pars (fun w w' => Below w.heap.size w w') 11 (by kernel_rfl) (by kernel_rfl) (by kernel_rfl) (by kernel_rfl) (by kernel_rfl) (by kernel_rfl)
                (fun w => Below.refl _ w) (fun h k => below_call h k) (fun vals => ?_)
              rotate_left
              simp only [List.take_succ_cons, List.take_zero, List.drop_succ_cons, List.drop_zero]
              (apply Par.par_x rfl; (focus (intro w6 hR hD K hK; replace hK := Lib.hid hK; skip; clear hR hD; go_simp; exact hK.out _ (Below.refl _ _))); simp only [Act.put, List.setIfInBounds_toArray, List.set_cons_zero, List.set_cons_succ, Nat.reduceAdd, List.cons_append, List.nil_append])
              (apply Par.par_x rfl; (focus (intro w6 hR hD K hK; replace hK := Lib.hid hK; skip; clear hR hD; go_simp; exact hK.out _ (Below.refl _ _))); simp only [Act.put, List.setIfInBounds_toArray, List.set_cons_zero, List.set_cons_succ, Nat.reduceAdd, List.cons_append, List.nil_append])
              (apply Par.par_x rfl; (focus (intro w6 hR hD K hK; replace hK := Lib.hid hK; skip; clear hR hD; go_simp; exact hK.out _ (Below.refl _ _))); simp only [Act.put, List.setIfInBounds_toArray, List.set_cons_zero, List.set_cons_succ, Nat.reduceAdd, List.cons_append, List.nil_append])
              (apply Par.par_g; (focus (intro w6 hR hD K hK; replace hK := Lib.hid hK; obtain ⟨e0, e1⟩ := HF.out w6 hR; clear hR hD; go_simp; exact hK.out _ (Below.refl _ _))); simp only [Act.put, List.setIfInBounds_toArray, List.set_cons_zero, List.set_cons_succ, Nat.reduceAdd, List.cons_append, List.nil_append])
              (apply Par.par_g; (focus (intro w6 hR hD K hK; replace hK := Lib.hid hK; obtain ⟨e0, e1⟩ := HF.out w6 hR; clear hR hD; go_simp; exact hK.out _ (Below.refl _ _))); simp only [Act.put, List.setIfInBounds_toArray, List.set_cons_zero, List.set_cons_succ, Nat.reduceAdd, List.cons_append, List.nil_append])
              (apply Par.par_g; (focus (intro w6 hR hD K hK; replace hK := Lib.hid hK; obtain ⟨e0, e1⟩ := HF.out w6 hR; clear hR hD; go_simp; exact hK.out _ (Below.refl _ _))); simp only [Act.put, List.setIfInBounds_toArray, List.set_cons_zero, List.set_cons_succ, Nat.reduceAdd, List.cons_append, List.nil_append])
              (apply Par.par_g; (focus (intro w6 hR hD K hK; replace hK := Lib.hid hK; obtain ⟨e0, e1⟩ := HF.out w6 hR; clear hR hD; go_simp; exact hK.out _ (Below.refl _ _))); simp only [Act.put, List.setIfInBounds_toArray, List.set_cons_zero, List.set_cons_succ, Nat.reduceAdd, List.cons_append, List.nil_append])
              (apply Par.par_g; (focus (intro w6 hR hD K hK; replace hK := Lib.hid hK; obtain ⟨e0, e1⟩ := HF.out w6 hR; clear hR hD; go_simp; exact hK.out _ (Below.refl _ _))); simp only [Act.put, List.setIfInBounds_toArray, List.set_cons_zero, List.set_cons_succ, Nat.reduceAdd, List.cons_append, List.nil_append])
              (apply Par.par_g; (focus (intro w6 hR hD K hK; replace hK := Lib.hid hK; obtain ⟨e0, e1⟩ := HF.out w6 hR; clear hR hD; go_simp; exact hK.out _ (Below.refl _ _))); simp only [Act.put, List.setIfInBounds_toArray, List.set_cons_zero, List.set_cons_succ, Nat.reduceAdd, List.cons_append, List.nil_append])
              (apply Par.par_g; (focus (intro w6 hR hD K hK; replace hK := Lib.hid hK; obtain ⟨e0, e1⟩ := HF.out w6 hR; clear hR hD; go_simp; exact hK.out _ (Below.refl _ _))); simp only [Act.put, List.setIfInBounds_toArray, List.set_cons_zero, List.set_cons_succ, Nat.reduceAdd, List.cons_append, List.nil_append])
              (apply Par.par_x rfl; (focus (intro w6 hR hD K hK; replace hK := Lib.hid hK; skip; clear hR hD; go_simp; exact hK.out _ (Below.refl _ _))); simp only [Act.put, List.setIfInBounds_toArray, List.set_cons_zero, List.set_cons_succ, Nat.reduceAdd, List.cons_append, List.nil_append])
              refine Par.par_end fun w6 hR hp => ?_
              clear hp
              have HB6 := Lib.hid (below_call HBB.out.drew hR)
              clear hR HF
              go_wp2
              go_roundw
              case rel =>
                exact ⟨q + 1, by go_num, by omega, HP.out.below HB6.out, HROW.out.below HB6.out, HB.out.trans (HB6.out.mono HB.out.size)⟩
              case measure => simp [intOf]; omega
            · obtain rfl : q = M := by omega
              go_wp2
              go_ret
              exact ⟨rfl, HB.out.mono (Nat.le_refl _)⟩
      · go_wp2_with (first | (go_at_call 12; refine (within12_any _ _ hk0 hkb _).mono ?_; rw [HAK.out]; rintro r w7 ⟨rfl, rfl⟩) | ((go_at_call 20; refine (copy_yes w.heap.size _ _ (acks j) HP.out HB.out.size a (by rw [acks_len]; exact ha2) (by rw [acks_len]; omega)).mono ?_; rw [acks_get ha2]; rintro r w5 ⟨rfl, hp, hb, hs⟩; have HP5 := Lib.hid hp; have HB5 := Lib.hid (HB.out.trans hb); have HROW5 := Lib.hid (own_still HROWJ.out hs ⟨by decide, by decide⟩); have c5 : w5.cell? ⟨g, a, none⟩ = some (.int .i64 ((a + 1 : Nat) : Int)) := (HROW5.out.cellAt a (by omega)).trans ((HROWJ.out.cellAt a (by omega)).symm.trans (HCL.out a ha2)); clear hp hb hs)) | (at_builtin; refine list_app_but elt_ints _ _ rfl rfl rfl rfl (World.ownsRow.alloc HROW5.out _) (alloc_at _ _) rfl (by omega) (by have := HB5.out.size; simp; omega) ?_; intro v' w6 hown hbut; have HO6 := Lib.hid hown; have HG6 := Lib.hid hbut; obtain ⟨wa, wc, rfl⟩ := own_slicen hown; clear hown hbut))
        have hal := below_alloc' (Below.refl w5.heap.size w5) (.cells #[.int .i64 ((a : Int) + 1)] 3)
        have hst := butO_still HG6.out (own_row (World.ownsRow.alloc HROW5.out _))
        obtain ⟨M, hM⟩ : ∃ M, j + 1 = M := ⟨_, rfl⟩
        obtain ⟨L, hL⟩ : ∃ L, acks j ++ [ackN (a + 1)] = L := ⟨_, rfl⟩
        obtain ⟨W, hW⟩ : ∃ W, upto j ++ [((a + 1 : Nat) : Int)] = W := ⟨_, rfl⟩
        have HPF : Hid (PostAt w.heap.size w6 (.pointer (some ⟨b, 0, none⟩)) L) := Lib.hid (by
          rw [← hL]
          refine (HP5.out.below hal).butO (fun i hi => ?_) HG6.out hst
          rw [List.length_append, acks_len, List.length_singleton] at hi
          by_cases e : i < j
          · rw [List.getD_eq_getElem?_getD, List.getElem?_append_left (by rw [acks_len]; exact e), ← List.getD_eq_getElem?_getD, acks_get e]
            rfl
          · rw [List.getD_eq_getElem?_getD, List.getElem?_append_right (by rw [acks_len]; omega), acks_len, show i - j = 0 by omega]
            rfl)
        have HWM : Hid (W.length = M) := Lib.hid (by rw [← hW, ← hM]; simp [upto_len])
        have HLM : Hid (L.length = M) := Lib.hid (by rw [← hL, ← hM]; simp [acks_len])
        have HWF : Hid (Nums w6 (.slice wa M wc) W) := Lib.hid (by
          refine Nums.of_own (base := w.heap.size) ?_ (by rw [HWM.out]; omega)
          have := HO6.out
          unfold Ints
          rw [HWM.out, ← hW, ← hM, List.map_append]
          exact this)
        have HG : Hid (∀ i, i < M → (L.getD i noMsg).gang = W.getD i 0) := Lib.hid fun i hi => by
          rw [← hL, ← hW, List.getD_eq_getElem?_getD, List.getD_eq_getElem?_getD]
          by_cases e : i < j
          · rw [List.getElem?_append_left (by rw [acks_len]; exact e), List.getElem?_append_left (by rw [upto_len]; exact e), ← List.getD_eq_getElem?_getD, ← List.getD_eq_getElem?_getD, acks_get e, upto_get e]
            rfl
          · rw [List.getElem?_append_right (by rw [acks_len]; omega), List.getElem?_append_right (by rw [upto_len]; omega), acks_len, upto_len, show i - j = 0 by omega]
            rfl
        have HBF := Lib.hid (butO_below HG6.out (HB5.out.trans (hal.mono HB5.out.size)) (by have := HB5.out.size; simp; omega) (fun g hg => (HROW5.out.lt g hg).1))
        have hMj : M ≤ 31 := by omega
        rw [hM]
        clear hal hst hM hL hW HO6 HG6 HP5 HB5 c5 haj
        have hML : M < 40 := by omega
        refine (len_is _ _ _ _ HPF.out M HLM.out).mono ?_
        rintro r w10 ⟨rfl, rfl⟩
        go_wp2
        go_loopw [14] (fun i wr => ∃ q : Nat, i = .int .i64 q ∧ q ≤ M ∧ PostAt w.heap.size wr (.pointer (some ⟨b, 0, none⟩)) L ∧ Nums wr (.slice wa M wc) W ∧ Below w.heap.size w wr) (fun i _ => M - (intOf i).toNat)
        case atStart => exact ⟨0, rfl, Nat.zero_le _, HPF.out, HWF.out, HBF.out⟩
        case round =>
          clear HPF HWF HBF
          obtain ⟨q, rfl, hq, hp, hrow, hb⟩ := hrel
          have HP := Lib.hid hp
          have HROW := Lib.hid hrow
          have HB := Lib.hid hb
          clear hp hrow hb
          by_cases hqt : q < M
          · have hqt' : (q : Int) < M := by omega
            obtain ⟨v, hv⟩ : ∃ v, W.getD q 0 = v := ⟨_, rfl⟩
            have HGQ : Hid ((L.getD q noMsg).gang = v) := Lib.hid (by rw [HG.out q hqt, hv])
            obtain ⟨bb, off, rfl, hcl⟩ : ∃ bb off, wa = some ⟨bb, off, none⟩ ∧ wr.cell? ⟨bb, off + q, none⟩ = some (.int .i64 v) := by
              obtain ⟨a', c', e, _, h⟩ := HROW.out
              injection e with e1 e2 e3
              subst e1
              obtain ⟨bb, off, h1, h2⟩ := h q (by rw [HWM.out]; exact hqt)
              exact ⟨bb, off, h1, by rw [h2, hv]⟩
            have HCL := Lib.hid hcl
            clear hv hcl
            go_wp2_with (go_at_call 25; refine (at_gang w.heap.size _ _ L HP.out q (by rw [HLM.out]; exact hqt) v HGQ.out).mono ?_; rintro r w8 ⟨kd', sr', ds', a1', l1', c1', a2', l2', c2', y', rfl, hb⟩; have HB8 := Lib.hid hb; clear hb)
            generalize hw9 : World.alloc w8 _ = w9
            have hb9 : Below w8.heap.size w8 w9 := by rw [← hw9]; exact below_alloc' (Below.refl _ _) _
            have z9 : w9.heap[w8.heap.size]? = some (.cells #[.int .i64 kd', .int .i64 sr', .int .i64 ds', .int .i64 v, .slice a1' l1' c1', .slice a2' l2' c2', .bool y'] 26 (0, 0)) := by rw [← hw9]; exact alloc_at _ _
            clear hw9
            have HBB := Lib.hid (below_call HB8.out hb9)
            have hfacts : ∀ w6, Below w9.drew.heap.size w9.drew w6 → w6.cell? ⟨w8.heap.size, 3, none⟩ = some (.int .i64 v) ∧ w6.cell? ⟨bb, off + q, none⟩ = some (.int .i64 v) := fun w6 h => ⟨cell_of_block (block_below (w := w9.drew) z9 h) 3 _ rfl, cell_below (w := w9.drew) (cell_below HCL.out HBB.out.drew) h⟩
            have HF := Lib.hid hfacts
            clear hb9 z9 hfacts
            refine' Par.wp_region_pars (fun w w' => Below w.heap.size w w') 11 (by kernel_rfl) (by kernel_rfl) (by kernel_rfl) (by kernel_rfl) (by kernel_rfl) (by kernel_rfl)
              (fun w => Below.refl _ w) (fun h k => below_call h k) (fun vals => ?_)
            rotate_left
            simp only [List.take_succ_cons, List.take_zero, List.drop_succ_cons, List.drop_zero]
            (apply Par.par_x rfl; (focus (intro w6 hR hD K hK; replace hK := Lib.hid hK; skip; clear hR hD; go_simp; exact hK.out _ (Below.refl _ _))); simp only [Act.put, List.setIfInBounds_toArray, List.set_cons_zero, List.set_cons_succ, Nat.reduceAdd, List.cons_append, List.nil_append])
            (apply Par.par_x rfl; (focus (intro w6 hR hD K hK; replace hK := Lib.hid hK; skip; clear hR hD; go_simp; exact hK.out _ (Below.refl _ _))); simp only [Act.put, List.setIfInBounds_toArray, List.set_cons_zero, List.set_cons_succ, Nat.reduceAdd, List.cons_append, List.nil_append])
            (apply Par.par_x rfl; (focus (intro w6 hR hD K hK; replace hK := Lib.hid hK; skip; clear hR hD; go_simp; exact hK.out _ (Below.refl _ _))); simp only [Act.put, List.setIfInBounds_toArray, List.set_cons_zero, List.set_cons_succ, Nat.reduceAdd, List.cons_append, List.nil_append])
            (apply Par.par_g; (focus (intro w6 hR hD K hK; replace hK := Lib.hid hK; obtain ⟨e0, e1⟩ := HF.out w6 hR; clear hR hD; go_simp; exact hK.out _ (Below.refl _ _))); simp only [Act.put, List.setIfInBounds_toArray, List.set_cons_zero, List.set_cons_succ, Nat.reduceAdd, List.cons_append, List.nil_append])
            (apply Par.par_g; (focus (intro w6 hR hD K hK; replace hK := Lib.hid hK; obtain ⟨e0, e1⟩ := HF.out w6 hR; clear hR hD; go_simp; exact hK.out _ (Below.refl _ _))); simp only [Act.put, List.setIfInBounds_toArray, List.set_cons_zero, List.set_cons_succ, Nat.reduceAdd, List.cons_append, List.nil_append])
            (apply Par.par_g; (focus (intro w6 hR hD K hK; replace hK := Lib.hid hK; obtain ⟨e0, e1⟩ := HF.out w6 hR; clear hR hD; go_simp; exact hK.out _ (Below.refl _ _))); simp only [Act.put, List.setIfInBounds_toArray, List.set_cons_zero, List.set_cons_succ, Nat.reduceAdd, List.cons_append, List.nil_append])
            (apply Par.par_g; (focus (intro w6 hR hD K hK; replace hK := Lib.hid hK; obtain ⟨e0, e1⟩ := HF.out w6 hR; clear hR hD; go_simp; exact hK.out _ (Below.refl _ _))); simp only [Act.put, List.setIfInBounds_toArray, List.set_cons_zero, List.set_cons_succ, Nat.reduceAdd, List.cons_append, List.nil_append])
            (apply Par.par_g; (focus (intro w6 hR hD K hK; replace hK := Lib.hid hK; obtain ⟨e0, e1⟩ := HF.out w6 hR; clear hR hD; go_simp; exact hK.out _ (Below.refl _ _))); simp only [Act.put, List.setIfInBounds_toArray, List.set_cons_zero, List.set_cons_succ, Nat.reduceAdd, List.cons_append, List.nil_append])
            (apply Par.par_g; (focus (intro w6 hR hD K hK; replace hK := Lib.hid hK; obtain ⟨e0, e1⟩ := HF.out w6 hR; clear hR hD; go_simp; exact hK.out _ (Below.refl _ _))); simp only [Act.put, List.setIfInBounds_toArray, List.set_cons_zero, List.set_cons_succ, Nat.reduceAdd, List.cons_append, List.nil_append])
            (apply Par.par_g; (focus (intro w6 hR hD K hK; replace hK := Lib.hid hK; obtain ⟨e0, e1⟩ := HF.out w6 hR; clear hR hD; go_simp; exact hK.out _ (Below.refl _ _))); simp only [Act.put, List.setIfInBounds_toArray, List.set_cons_zero, List.set_cons_succ, Nat.reduceAdd, List.cons_append, List.nil_append])
            (apply Par.par_x rfl; (focus (intro w6 hR hD K hK; replace hK := Lib.hid hK; skip; clear hR hD; go_simp; exact hK.out _ (Below.refl _ _))); simp only [Act.put, List.setIfInBounds_toArray, List.set_cons_zero, List.set_cons_succ, Nat.reduceAdd, List.cons_append, List.nil_append])
            refine Par.par_end fun w6 hR hp => ?_
            clear hp
            have HB6 := Lib.hid (below_call HBB.out.drew hR)
            clear hR HF
            go_wp2
            go_roundw
            case rel =>
              exact ⟨q + 1, by go_num, by omega, HP.out.below HB6.out, HROW.out.below HB6.out, HB.out.trans (HB6.out.mono HB.out.size)⟩
            case measure => simp [intOf]; omega
          · obtain rfl : q = M := by omega
            go_wp2
            go_ret
            exact ⟨rfl, HB.out.mono (Nat.le_refl _)⟩
end Go.Proofs.YtpkkjonajimefaaDoor
