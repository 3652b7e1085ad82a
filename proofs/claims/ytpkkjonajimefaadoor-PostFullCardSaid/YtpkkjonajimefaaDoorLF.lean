/- PostFull: the law's walk. -/
import Derived.Test.YtpkkjonajimefaaDoorU
set_option linter.unusedVariables false
set_option linter.unusedSimpArgs false
namespace Go.Proofs.YtpkkjonajimefaaDoor
open Go.RowKit

set_option maxHeartbeats 8000000 in
set_option maxRecDepth 100000 in
theorem postFull_any (n takes : Int) (w : World) (ht : Tabs w) : Calls Tryd.prog 6 #[.int .i64 n, .int .i64 takes] w fun e w' => e = .returned (.bool true) ∧ Below w.heap.size w w' := by
  have HT := Lib.hid ht
  clear ht
  obtain ⟨k, hk, hk1, hk2⟩ : ∃ k : Nat, 190 + n % 30 = k ∧ 190 ≤ k ∧ k < 220 := ⟨(190 + n % 30).toNat, by omega, by omega, by omega⟩
  obtain ⟨t, htk, ht2⟩ : ∃ t : Nat, takes % 20 = t ∧ t < 20 := ⟨(takes % 20).toNat, by omega, by omega⟩
  have HK := Lib.hid hk
  have HTK := Lib.hid htk
  have kwk : IntKind.i64.wrap (190 + n % 30) = k := (kwid (by omega) (by omega)).trans hk
  clear hk htk
  go_enter Tryd.func6, Tryd.ntmps6
  go_wp2_with (first | (go_at_call 10; refine (known_any _ HT.out).mono ?_; rintro r w1 ⟨rfl, hb⟩; have HB1 := Lib.hid hb; clear hb) | (go_at_call 15; refine (new_any _).mono ?_; rintro r w2 ⟨b, rfl, hp, hb⟩; have HP2 := Lib.hid (hp.base HB1.out.size); have HB2 := Lib.hid (below_call HB1.out hb); clear hp hb) | (go_at_call 12; refine (within12_any _ _ (by omega) (by omega) _).mono ?_; rintro r w7 ⟨rfl, rfl⟩))
  go_loopw [6, 8] (fun v i wr => ∃ j : Nat, i = .int .i64 (j + 1 : Nat) ∧ j ≤ k ∧ MsgRow w.heap.size wr v (acks j) ∧ PostAt w.heap.size wr (.pointer (some ⟨b, 0, none⟩)) [] ∧ Below w.heap.size w wr) (fun _ i _ => k + 1 - (intOf i).toNat)
  case atStart => exact ⟨0, rfl, Nat.zero_le _, MsgRow.nil _ _, HP2.out, HB2.out⟩
  case round =>
    obtain ⟨j, rfl, hj, hrow, hp, hb⟩ := hrel
    have HROW := Lib.hid hrow
    have HP := Lib.hid hp
    have HB := Lib.hid hb
    clear hrow hp hb
    by_cases hlt : j < k
    · have hlt' : ((j + 1 : Nat) : Int) ≤ (k : Int) := by omega
      obtain ⟨cc, hown, hcc⟩ := HROW.out
      rw [acks_len] at hown
      have HOWN := Lib.hid hown
      have HCC := Lib.hid hcc
      clear hown hcc
      go_wp2_with (at_builtin; refine list_appends elt_msgs _ _ rfl rfl rfl rfl (World.ownsRow.alloc HOWN.out _) (show (ackV (j + 1)).length = 1 * 7 from rfl) (news_row (alloc_at _ _)) (by simp [Value.oneCell', ackV]) (by omega) (by have := HB.out.size; simp; omega) ?_; intro v' w6 hown hgrow; have HO6 := Lib.hid hown; have HG6 := Lib.hid hgrow; clear hown hgrow)
      go_roundw
      case rel =>
        have hst := still_grown (World.ownsRow.alloc HOWN.out _) HG6.out
        have hst' : Still (fun e => e ≠ 26) wr w6 := (Still.of_below (below_alloc' (Below.refl _ wr) _)).trans hst
        refine ⟨j + 1, by go_num, by omega, ?_, HP.out.still (still_sub hst' fun e he => postT_ne he), (below_alloc' HB.out _).grown HG6.out (by have := HB.out.size; simp; omega) (fun k hk => (HOWN.out.lt k hk).1)⟩
        rw [acks_succ]
        refine MsgRow.snoc HCC.out rfl (ackN_at 0 (j + 1) _) (ackN_few _) ?_ (still_sub hst' fun e he => postT_ne (.inr (.inr (.inr he))))
        rw [acks_len]
        exact HO6.out
      case measure => simp [intOf]; omega
    · obtain rfl : j = k := by omega
      have hgt : ¬ ((j + 1 : Nat) : Int) ≤ (j : Int) := by omega
      obtain ⟨g, cap, rfl, hjc⟩ : ∃ g cap, u6 = .slice (some ⟨g, 0, none⟩) j cap ∧ j ≤ cap := by
        obtain ⟨cc, hown, _⟩ := HROW.out
        rw [acks_len] at hown
        obtain ⟨g, cap, _, e, _, _, hc, _⟩ := hown.2.resolve_left (by rintro ⟨_, h⟩; omega)
        exact ⟨g, cap, e, hc⟩
      have hcap : (30 : Int) ≤ cap := by omega
      have hcap' : ¬ (cap : Int) < 30 := by omega
      go_wp2_with (go_at_call 22; fail)
      refine (send_any w.heap.size wr _ [] HP.out HB.out.size _ (acks j) HROW.out.at_ (by rw [acks_len]; omega)).mono ?_
      rintro e w3 ⟨rfl, hp3, hb3, hs3⟩
      rw [sent_eq _ _ (by simp), List.nil_append] at hp3
      have HROW3 := Lib.hid (HROW.out.still (rest_msgT hs3))
      have HB3 := Lib.hid (HB.out.trans hb3)
      have HP3 := Lib.hid hp3
      clear hp3 hb3 hs3 HROW HP HB
      by_cases h200 : j < 200
      · have hmin : min (j : Int) 200 = j := by omega
        have kw1 : IntKind.i64.wrap ((j : Int) - 1) = ((j - 1 : Nat) : Int) := (kwid (by omega) (by omega)).trans (by omega)
        have hj2 : (j : Int) < 200 := by omega
        have hp3 := HP3.out
        rw [List.take_of_length_le (by rw [acks_len]; omega)] at hp3
        clear HP3
        have HP3 := Lib.hid hp3
        have HGM : Hid (((acks j).getD (j - 1) noMsg).gang = (j : Nat)) := Lib.hid (by rw [acks_get (by omega)]; show ((j - 1 + 1 : Nat) : Int) = _; omega)
        clear hp3
        go_wp2_with (first | (go_at_call 25; refine (at_gang w.heap.size _ _ (acks j) HP3.out (j - 1) (by rw [acks_len]; omega) (j : Nat) HGM.out).mono ?_; rintro r w5 ⟨kd, sr, ds, a1, l1, c1, a2, l2, c2, y, rfl, hb⟩; have HP5 := Lib.hid (HP3.out.below hb); have HROW5 := Lib.hid (HROW3.out.still (Still.of_below hb)); have HB5 := Lib.hid (HB3.out.trans (hb.mono HB3.out.size)); clear hb HP3 HROW3 HB3) | (go_at_call 26; refine (len_is _ _ _ _ (HP5.out.below (below_alloc' (Below.refl _ _) _)) j (acks_len _)).mono ?_; rintro r w6 ⟨rfl, rfl⟩) | (go_at_call 20; refine (copy_yes w.heap.size _ _ _ (HP5.out.below (below_alloc' (Below.refl _ _) _)) (Nat.le_trans HB5.out.size (size_alloc_le _ _)) 0 (by rw [acks_len]; omega) (by rw [acks_len]; omega)).mono ?_; rintro r w7 ⟨rfl, hp, hb, hs⟩; have HP7 := Lib.hid hp; have HB7 := Lib.hid ((HB5.out.trans ((below_alloc' (Below.refl _ _) _).mono HB5.out.size)).trans hb); have HROW7 := Lib.hid ((HROW5.out.still (Still.of_below (below_alloc' (Below.refl _ _) _))).still (rest_msgT hs)); clear hp hb hs) | (go_at_call 26; refine (len_is _ _ _ _ HP7.out (j + 1) (by rw [List.length_append, acks_len]; rfl)).mono ?_; rintro r w8 ⟨rfl, rfl⟩) | (go_at_call 12; refine (within12_any _ _ (by omega) (by omega) _).mono ?_; rw [HTK.out]; rintro r w9 ⟨rfl, rfl⟩))
        obtain ⟨L2, hL2⟩ : ∃ L2, acks j ++ [(acks j).getD 0 noMsg] = L2 := ⟨_, rfl⟩
        have HLL : Hid (L2.length = (j + 1)) := Lib.hid (by rw [← hL2]; exact (by rw [List.length_append, acks_len]; rfl))
        have HLG : Hid (∀ i, i < 30 → (L2.getD i noMsg).gang = (i : Int) + 1) := Lib.hid fun i hi => by
          rw [← hL2]
          rw [List.getD_eq_getElem?_getD, List.getElem?_append_left (by rw [acks_len]; omega), ← List.getD_eq_getElem?_getD, acks_get (by omega)]
          show ((i + 1 : Nat) : Int) = _
          omega
        rw [hL2] at HP7
        obtain ⟨m2, hm2⟩ : ∃ m2 : Nat, m2 = (j + 1) := ⟨_, rfl⟩
        have em2 : (((j + 1) : Nat) : Int) = (m2 : Int) := by rw [hm2]
        rw [← hm2] at HLL
        have hm2a : 190 ≤ m2 := by omega
        have hm2b : m2 ≤ 200 := by omega
        clear hm2 hL2 HROW5 HP5 HB5
        go_loopw [13] (fun i wr => ∃ q : Nat, i = .int .i64 q ∧ q ≤ t ∧ PostAt w.heap.size wr (.pointer (some ⟨b, 0, none⟩)) (L2.drop q) ∧ MsgRow w.heap.size wr (.slice (some ⟨g, 0, none⟩) j cap) (acks j) ∧ Below w.heap.size w wr) (fun i _ => t - (intOf i).toNat)
        case atStart => exact ⟨0, rfl, Nat.zero_le _, HP7.out, HROW7.out, HB7.out⟩
        case round =>
          clear HP7 HROW7 HB7
          obtain ⟨q, rfl, hq, hp, hrow, hb⟩ := hrel
          have HP := Lib.hid hp
          have HROW := Lib.hid hrow
          have HB := Lib.hid hb
          clear hp hrow hb
          by_cases hqt : q < t
          · have hqt' : (q : Int) < t := by omega
            have HGQ : Hid (((L2.drop q).getD 0 noMsg).gang = (q : Int) + 1) := Lib.hid (by
              have := HLG.out q (by omega)
              rwa [List.getD_eq_getElem?_getD, List.getElem?_drop, Nat.add_zero, ← List.getD_eq_getElem?_getD])
            go_wp2_with (go_at_call 17; refine (take_gang w.heap.size _ _ (L2.drop q) HP.out HB.out.size 0 (by rw [List.length_drop, HLL.out]; omega) _ HGQ.out).mono ?_; rintro r w8 ⟨kd', sr', ds', a1', l1', c1', a2', l2', c2', y', rfl, hp, hb, hs⟩; have HP8 := Lib.hid hp; have HB8 := Lib.hid (HB.out.trans hb); have HROW8 := Lib.hid (HROW.out.still (rest_msgT hs)); clear hp hb hs)
            go_roundw
            case rel =>
              have hal := below_alloc' (Below.refl w8.heap.size w8) (.cells #[.int .i64 kd', .int .i64 sr', .int .i64 ds', .int .i64 ((q : Int) + 1), .slice a1' l1' c1', .slice a2' l2' c2', .bool y'] 26)
              refine ⟨q + 1, by go_num, by omega, ?_, HROW8.out.still (Still.of_below hal), HB8.out.trans (hal.mono HB8.out.size)⟩
              have := HP8.out.below hal
              rwa [List.eraseIdx_zero, List.tail_drop] at this
            case measure => simp [intOf]; omega
          · obtain rfl : q = t := by omega
            have HR30 : Hid (MsgRow w.heap.size wr (.slice (some ⟨g, 0, none⟩) 30 cap) (acks 30)) := Lib.hid (by
              have := MsgRow.take (l := acks j) (n' := 30) (by rw [acks_len]; exact HROW.out) (by rw [acks_len]; omega)
              rwa [acks_take (by omega)] at this)
            obtain ⟨N, hN⟩ : ∃ N, N = min 200 (m2 - q + 30) := ⟨_, rfl⟩
            have HSL : Hid ((sent (L2.drop q) (acks 30)).length = N) := Lib.hid (by
              rw [sent_eq _ _ (by rw [List.length_drop, HLL.out]; omega), List.length_take, List.length_append, List.length_drop, HLL.out, acks_len, hN])
            have hNI : (N : Int) = min 200 ((m2 : Int) - q + 30) := by omega
            rw [← em2] at hNI
            have HNI := Lib.hid hNI
            clear hN hNI
            go_wp2_with (first | (go_at_call 22; refine (send_any w.heap.size _ _ (L2.drop q) HP.out HB.out.size _ (acks 30) HR30.out.at_ (by decide)).mono ?_; rintro r w8 ⟨rfl, hp, hb, hs⟩; have HP8 := Lib.hid hp; have HB8 := Lib.hid (HB.out.trans hb); clear hp hb hs) | (go_at_call 26; refine (len_is _ _ _ _ HP8.out N HSL.out).mono ?_; rintro r w9 ⟨rfl, rfl⟩))
            go_ret
            refine ⟨ret_bool ?_, HB8.out.mono (Nat.le_refl _)⟩
            have := HNI.out
            exact beq_iff_eq.mpr (by omega)
      · have hmin : min (j : Int) 200 = (200 : Nat) := by omega
        have hj2 : ¬ (j : Int) < 200 := by omega
        have hp3 := HP3.out
        rw [acks_take (by omega)] at hp3
        clear HP3
        have HP3 := Lib.hid hp3
        have HGM : Hid (((acks 200).getD (200 - 1) noMsg).gang = (200 : Nat)) := Lib.hid (by rw [acks_get (by omega)]; rfl)
        clear hp3
        go_wp2_with (first | (go_at_call 25; refine (at_gang w.heap.size _ _ (acks 200) HP3.out (200 - 1) (by rw [acks_len]; omega) (200 : Nat) HGM.out).mono ?_; rintro r w5 ⟨kd, sr, ds, a1, l1, c1, a2, l2, c2, y, rfl, hb⟩; have HP5 := Lib.hid (HP3.out.below hb); have HROW5 := Lib.hid (HROW3.out.still (Still.of_below hb)); have HB5 := Lib.hid (HB3.out.trans (hb.mono HB3.out.size)); clear hb HP3 HROW3 HB3) | (go_at_call 26; refine (len_is _ _ _ _ (HP5.out.below (below_alloc' (Below.refl _ _) _)) 200 (acks_len _)).mono ?_; rintro r w6 ⟨rfl, rfl⟩) | (go_at_call 20; refine (copy_no w.heap.size _ _ _ (HP5.out.below (below_alloc' (Below.refl _ _) _)) (Nat.le_trans HB5.out.size (size_alloc_le _ _)) 0 (by rw [acks_len]; omega)).mono ?_; rintro r w7 ⟨rfl, hp, hb, hs⟩; have HP7 := Lib.hid hp; have HB7 := Lib.hid ((HB5.out.trans ((below_alloc' (Below.refl _ _) _).mono HB5.out.size)).trans hb); have HROW7 := Lib.hid ((HROW5.out.still (Still.of_below (below_alloc' (Below.refl _ _) _))).still (rest_msgT hs)); clear hp hb hs) | (go_at_call 26; refine (len_is _ _ _ _ HP7.out 200 (acks_len _)).mono ?_; rintro r w8 ⟨rfl, rfl⟩) | (go_at_call 12; refine (within12_any _ _ (by omega) (by omega) _).mono ?_; rw [HTK.out]; rintro r w9 ⟨rfl, rfl⟩))
        obtain ⟨L2, hL2⟩ : ∃ L2, acks 200 = L2 := ⟨_, rfl⟩
        have HLL : Hid (L2.length = 200) := Lib.hid (by rw [← hL2]; exact acks_len _)
        have HLG : Hid (∀ i, i < 30 → (L2.getD i noMsg).gang = (i : Int) + 1) := Lib.hid fun i hi => by
          rw [← hL2]
          rw [acks_get (by omega)]
          show ((i + 1 : Nat) : Int) = _
          omega
        rw [hL2] at HP7
        obtain ⟨m2, hm2⟩ : ∃ m2 : Nat, m2 = 200 := ⟨_, rfl⟩
        have em2 : ((200 : Nat) : Int) = (m2 : Int) := by rw [hm2]
        rw [← hm2] at HLL
        have hm2a : 190 ≤ m2 := by omega
        have hm2b : m2 ≤ 200 := by omega
        clear hm2 hL2 HROW5 HP5 HB5
        go_loopw [13] (fun i wr => ∃ q : Nat, i = .int .i64 q ∧ q ≤ t ∧ PostAt w.heap.size wr (.pointer (some ⟨b, 0, none⟩)) (L2.drop q) ∧ MsgRow w.heap.size wr (.slice (some ⟨g, 0, none⟩) j cap) (acks j) ∧ Below w.heap.size w wr) (fun i _ => t - (intOf i).toNat)
        case atStart => exact ⟨0, rfl, Nat.zero_le _, HP7.out, HROW7.out, HB7.out⟩
        case round =>
          clear HP7 HROW7 HB7
          obtain ⟨q, rfl, hq, hp, hrow, hb⟩ := hrel
          have HP := Lib.hid hp
          have HROW := Lib.hid hrow
          have HB := Lib.hid hb
          clear hp hrow hb
          by_cases hqt : q < t
          · have hqt' : (q : Int) < t := by omega
            have HGQ : Hid (((L2.drop q).getD 0 noMsg).gang = (q : Int) + 1) := Lib.hid (by
              have := HLG.out q (by omega)
              rwa [List.getD_eq_getElem?_getD, List.getElem?_drop, Nat.add_zero, ← List.getD_eq_getElem?_getD])
            go_wp2_with (go_at_call 17; refine (take_gang w.heap.size _ _ (L2.drop q) HP.out HB.out.size 0 (by rw [List.length_drop, HLL.out]; omega) _ HGQ.out).mono ?_; rintro r w8 ⟨kd', sr', ds', a1', l1', c1', a2', l2', c2', y', rfl, hp, hb, hs⟩; have HP8 := Lib.hid hp; have HB8 := Lib.hid (HB.out.trans hb); have HROW8 := Lib.hid (HROW.out.still (rest_msgT hs)); clear hp hb hs)
            go_roundw
            case rel =>
              have hal := below_alloc' (Below.refl w8.heap.size w8) (.cells #[.int .i64 kd', .int .i64 sr', .int .i64 ds', .int .i64 ((q : Int) + 1), .slice a1' l1' c1', .slice a2' l2' c2', .bool y'] 26)
              refine ⟨q + 1, by go_num, by omega, ?_, HROW8.out.still (Still.of_below hal), HB8.out.trans (hal.mono HB8.out.size)⟩
              have := HP8.out.below hal
              rwa [List.eraseIdx_zero, List.tail_drop] at this
            case measure => simp [intOf]; omega
          · obtain rfl : q = t := by omega
            have HR30 : Hid (MsgRow w.heap.size wr (.slice (some ⟨g, 0, none⟩) 30 cap) (acks 30)) := Lib.hid (by
              have := MsgRow.take (l := acks j) (n' := 30) (by rw [acks_len]; exact HROW.out) (by rw [acks_len]; omega)
              rwa [acks_take (by omega)] at this)
            obtain ⟨N, hN⟩ : ∃ N, N = min 200 (m2 - q + 30) := ⟨_, rfl⟩
            have HSL : Hid ((sent (L2.drop q) (acks 30)).length = N) := Lib.hid (by
              rw [sent_eq _ _ (by rw [List.length_drop, HLL.out]; omega), List.length_take, List.length_append, List.length_drop, HLL.out, acks_len, hN])
            have hNI : (N : Int) = min 200 ((m2 : Int) - q + 30) := by omega
            rw [← em2] at hNI
            have HNI := Lib.hid hNI
            clear hN hNI
            go_wp2_with (first | (go_at_call 22; refine (send_any w.heap.size _ _ (L2.drop q) HP.out HB.out.size _ (acks 30) HR30.out.at_ (by decide)).mono ?_; rintro r w8 ⟨rfl, hp, hb, hs⟩; have HP8 := Lib.hid hp; have HB8 := Lib.hid (HB.out.trans hb); clear hp hb hs) | (go_at_call 26; refine (len_is _ _ _ _ HP8.out N HSL.out).mono ?_; rintro r w9 ⟨rfl, rfl⟩))
            go_ret
            refine ⟨ret_bool ?_, HB8.out.mono (Nat.le_refl _)⟩
            have := HNI.out
            exact beq_iff_eq.mpr (by omega)
end Go.Proofs.YtpkkjonajimefaaDoor
