/- The reference's copies of pods and of messages. -/
import Derived.Test.YtpkkjonajimefaaDoorA
import Derived.Test.YtpkkjonajimefaaDoorQ
set_option linter.unusedVariables false
set_option linter.unusedSimpArgs false
namespace Go.Proofs.YtpkkjonajimefaaDoor
open Go.RowKit

set_option maxHeartbeats 4000000 in
set_option maxRecDepth 100000 in
theorem rcopy_any (b0 : Nat) (w : World) (v : Value) (l : List PodM) (h : PodsAt b0 w v l) (hl : l.length ≤ 1073741824) (hf : ∀ i, i < l.length → (l.getD i noPod).picks.length ≤ 1073741824 ∧ (l.getD i noPod).bears.length ≤ 1073741824) :
    Calls Tryd.prog 46 #[v] w fun e w' => ∃ v', e = .returned v' ∧ PodsAt w.heap.size w' v' l ∧ Below w.heap.size w w' := by
  obtain ⟨a1, c1, rfl⟩ := pods_len h
  have H1 := Lib.hid h
  have HF := Lib.hid hf
  clear h hf
  go_enter Tryd.func46, Tryd.ntmps46
  go_wp2
  go_loopw [3, 4] (fun v i wr => ∃ k : Nat, i = .int .i64 k ∧ k ≤ l.length ∧ PodsAt w.heap.size wr v (l.take k) ∧ Below w.heap.size w wr) (fun _ i _ => l.length - (intOf i).toNat)
  case atStart => exact ⟨0, rfl, Nat.zero_le _, ⟨fun _ => [], World.ownsRow_nil _ _ _ _, fun i h => absurd h (Nat.not_lt_zero _)⟩, Below.refl _ _⟩
  case round =>
    obtain ⟨k, rfl, hk, ho, hb⟩ := hrel
    have HO := Lib.hid ho
    have HB := Lib.hid hb
    clear ho hb
    by_cases hlt : k < l.length
    · have hlt' : (k : Int) < l.length := by omega
      obtain ⟨g1, u1, x1, rfl, hc1, hu1, hx1⟩ := pods_cells H1.out hlt
      have hfew := HF.out k hlt
      obtain ⟨pk, hpk⟩ : ∃ pk, l.getD k noPod = pk := ⟨_, rfl⟩
      rw [hpk] at hc1 hu1 hx1 hfew
      obtain ⟨ua, uc, rfl⟩ := own_slicen hu1
      obtain ⟨xa, xc, rfl⟩ := own_slicen hx1
      obtain ⟨cc, hrow, hpods⟩ := HO.out
      have hlk : (l.take k).length = k := by rw [List.length_take]; omega
      rw [hlk] at hrow hpods
      have HROW := Lib.hid hrow
      have HPODS := Lib.hid hpods
      have p0 : wr.cell? ⟨g1, k * 7, none⟩ = some (.string pk.name) := cell_below (hc1 0 _ rfl) HB.out
      have p1 := cell_below (hc1 1 _ rfl) HB.out
      have p2 := cell_below (hc1 2 _ rfl) HB.out
      have p3 := cell_below (hc1 3 _ rfl) HB.out
      have p4 := cell_below (hc1 4 _ rfl) HB.out
      have p5 := cell_below (hc1 5 _ rfl) HB.out
      have p6 := cell_below (hc1 6 _ rfl) HB.out
      have HU := Lib.hid (hu1.still (Still.of_below HB.out))
      have HX := Lib.hid (hx1.still (Still.of_below HB.out))
      have HFW := Lib.hid hfew
      have HPK := Lib.hid hpk
      have hg1 : g1 < wr.heap.size := World.block_lt_of_cell? wr _ p0
      have hn1 : g1 ≠ wr.heap.size := by omega
      have hn2 : g1 ≠ wr.heap.size + 1 := by omega
      have HP5 := Lib.hid p5
      clear hc1 hu1 hx1 hfew hpk hrow hpods hlk
      go_upto_region 7 with (at_builtin; refine list_app_new elt_strs (.tmp 16) (.tmp 21) rfl rfl (b := wr.heap.size) rfl rfl (alloc_second _ _ _) (Nat.le_succ _) (own_ax (own_below HU.out (below_alloc' (below_alloc' (Below.refl _ _) _) _))) (by simp) (one_strs _) (by have := HFW.out.1; omega) ?_; intro v' w5 hv hb5; have hz5 := block_below ((Below.heap_alloc _ _ _ (by simp)).trans (alloc_at wr _)) hb5; obtain ⟨va, vc, rfl⟩ := own_slicen hv; have q4 := cell_of_block hz5 4 _ rfl; have fr := free_of_block hz5 4; have HV := Lib.hid hv; have HB5 := Lib.hid (below_call (below_alloc' (below_alloc' (Below.refl wr.heap.size wr) _) _) hb5); have HZ5 := Lib.hid hz5; clear hv hb5 hz5)
      have hbut := But.set w5 wr.heap.size 4 (.slice va pk.picks.length vc)
      have hB6 : Below wr.heap.size wr (w5.setCell ⟨wr.heap.size, 4, none⟩ (.slice va pk.picks.length vc)) := HB5.out.setCell (Nat.le_refl _) _
      have z6 : (w5.setCell ⟨wr.heap.size, 4, none⟩ (.slice va pk.picks.length vc)).heap[wr.heap.size]? = some (.cells #[Value.string pk.name, .int .i64 pk.shard, .int .i64 pk.cpu, .int .i64 pk.mem, .slice va pk.picks.length vc, .slice xa pk.bears.length xc, .bool pk.alone] 53 (0, 0)) := heap_setCell_same _ _ _ _ _ _ HZ5.out
      have hv6 : Strs wr.heap.size (w5.setCell ⟨wr.heap.size, 4, none⟩ (.slice va pk.picks.length vc)) (.slice va pk.picks.length vc) pk.picks := Strs.still' HV.out (hbut.still HZ5.out (by decide))
      generalize World.setCell _ _ _ = w6 at hB6 z6 hv6 ⊢
      have p5' : ∀ o, (w6.alloc o).cell? ⟨g1, k * 7 + 5, none⟩ = some (.slice xa pk.bears.length xc) := fun o => cell_below (cell_below HP5.out hB6) (below_alloc' (Below.refl _ _) _)
      have hn3 : g1 ≠ w6.heap.size := by have := hB6.size; omega
      have HX6 := Lib.hid (Strs.still HX.out (Still.of_below hB6))
      have HB6 := Lib.hid hB6
      have Z6 := Lib.hid z6
      have HV6 := Lib.hid hv6
      clear hbut hB6 z6 hv6 fr q4 HB5 HZ5 HV hn1 hn2 p0 p1 p2 p3 p4 p6
      go_upto_region 8 with (at_builtin; refine list_app_new elt_strs (.tmp 24) (.tmp 29) rfl rfl (b := wr.heap.size) rfl rfl (alloc_at _ _) HB6.out.size (own_ax (own_below HX6.out (below_alloc' (Below.refl _ _) _))) (by simp) (one_strs _) (by have := HFW.out.2; omega) ?_; intro v' w7 hv hb7; have hz7 := block_below Z6.out (below_call (below_alloc' (Below.refl _ _) _) hb7); obtain ⟨ya, yc, rfl⟩ := own_slicen hv; have q5 := cell_of_block hz7 5 _ rfl; have fr := free_of_block hz7 5; have HV7 := Lib.hid hv; have HB7 := Lib.hid (below_call (below_alloc' (Below.refl w6.heap.size w6) _) hb7); have HZ7 := Lib.hid hz7; clear hv hb7 hz7)
      have hbut := But.set w7 wr.heap.size 5 (.slice ya pk.bears.length yc)
      have hst := hbut.still HZ7.out (T := fun e => e = 9) (by decide)
      have hB8 : Below wr.heap.size wr (w7.setCell ⟨wr.heap.size, 5, none⟩ (.slice ya pk.bears.length yc)) := (below_call HB6.out HB7.out).setCell (Nat.le_refl _) _
      have z8 : (w7.setCell ⟨wr.heap.size, 5, none⟩ (.slice ya pk.bears.length yc)).heap[wr.heap.size]? = some (.cells #[Value.string pk.name, .int .i64 pk.shard, .int .i64 pk.cpu, .int .i64 pk.mem, .slice va pk.picks.length vc, .slice ya pk.bears.length yc, .bool pk.alone] 53 (0, 0)) := heap_setCell_same _ _ _ _ _ _ HZ7.out
      have hv8 : Strs wr.heap.size (w7.setCell ⟨wr.heap.size, 5, none⟩ (.slice ya pk.bears.length yc)) (.slice va pk.picks.length vc) pk.picks := Strs.still' (Strs.still HV6.out (Still.of_below HB7.out)) hst
      have hy8 : Strs wr.heap.size (w7.setCell ⟨wr.heap.size, 5, none⟩ (.slice ya pk.bears.length yc)) (.slice ya pk.bears.length yc) pk.bears := Strs.still' HV7.out hst
      generalize World.setCell _ _ _ = w8 at hB8 z8 hv8 hy8 ⊢
      have m0 := cell_of_block z8 0 _ rfl
      have m1 := cell_of_block z8 1 _ rfl
      have m2 := cell_of_block z8 2 _ rfl
      have m3 := cell_of_block z8 3 _ rfl
      have m4 := cell_of_block z8 4 _ rfl
      have m5 := cell_of_block z8 5 _ rfl
      have m6 := cell_of_block z8 6 _ rfl
      have HB8 := Lib.hid hB8
      have HV8 := Lib.hid hv8
      have HY8 := Lib.hid hy8
      clear hbut hst hB8 z8 hv8 hy8 fr q5 p5' hn3
      go_wp2_with (at_builtin; refine list_appends elt_pods _ _ rfl rfl rfl rfl (World.ownsRow.alloc (own_below HROW.out HB8.out) _) (show ([Value.string pk.name, .int .i64 pk.shard, .int .i64 pk.cpu, .int .i64 pk.mem, .slice va pk.picks.length vc, .slice ya pk.bears.length yc, .bool pk.alone] : List Value).length = 1 * 7 from rfl) (news_row (alloc_at _ _)) (by simp [Value.oneCell']) (by omega) (by have := HB.out.size; have := HB8.out.size; simp; omega) ?_; intro v' w9 hown hgrow; have HO9 := Lib.hid hown; have HG9 := Lib.hid hgrow; clear hown hgrow)
      go_roundw
      case rel =>
        have b9 := (below_alloc' (below_call HB.out HB8.out) (.cells #[Value.string pk.name, .int .i64 pk.shard, .int .i64 pk.cpu, .int .i64 pk.mem, .slice va pk.picks.length vc, .slice ya pk.bears.length yc, .bool pk.alone] 53)).grown HG9.out (by have := HB.out.size; have := HB8.out.size; simp; omega) (fun k hk => (HROW.out.lt k hk).1)
        have hlk : (l.take (k + 1)).length = k + 1 := by rw [List.length_take]; omega
        have hst : ∀ (b : Nat) (v : Value) (l : List ByteArray), Strs b w8 v l → Strs b w9 v l := fun b v l h => by
          have h1 := World.ownsRow.alloc h (.cells #[Value.string pk.name, .int .i64 pk.shard, .int .i64 pk.cpu, .int .i64 pk.mem, .slice va pk.picks.length vc, .slice ya pk.bears.length yc, .bool pk.alone] 53)
          exact h1.kept HG9.out ((own_type_ne h1 (World.ownsRow.alloc (own_below HROW.out HB8.out) _) (by decide)).imp id (fun h e => h (e.trans rfl)))
        refine ⟨k + 1, by go_num, by omega, ⟨fun i => if i = k then [Value.string pk.name, .int .i64 pk.shard, .int .i64 pk.cpu, .int .i64 pk.mem, .slice va pk.picks.length vc, .slice ya pk.bears.length yc, .bool pk.alone] else cc i, ?_, fun i hi => ?_⟩, b9⟩
        · have := HO9.out
          rw [hlk, flat_succ, if_pos rfl, flat_ext (d := cc) (fun i hi => if_neg (by omega))]
          exact this
        · rw [hlk] at hi
          by_cases e : i = k
          · subst e
            show PodAt _ _ (if _ then _ else _) _
            rw [if_pos rfl, show (l.take (i + 1)).getD i noPod = pk by rw [← HPK.out, List.getD_eq_getElem?_getD, List.getElem?_take_of_lt (by omega), List.getD_eq_getElem?_getD]]
            exact ⟨_, _, rfl, own_base (hst _ _ _ HV8.out) HB.out.size, own_base (hst _ _ _ HY8.out) HB.out.size⟩
          · show PodAt _ _ (if _ then _ else _) _
            rw [if_neg e]
            obtain ⟨u, v, e1, h1, h2⟩ := HPODS.out i (by omega)
            have e2 : (l.take (k + 1)).getD i noPod = (l.take k).getD i noPod := by
              rw [List.getD_eq_getElem?_getD, List.getD_eq_getElem?_getD, List.getElem?_take_of_lt (by omega), List.getElem?_take_of_lt (by omega)]
            rw [e2]
            exact ⟨u, v, e1, hst _ _ _ (own_below h1 HB8.out), hst _ _ _ (own_below h2 HB8.out)⟩
      case measure => simp [intOf]; omega
    · obtain rfl : k = l.length := by omega
      go_wp2
      go_ret
      have := HO.out
      rw [List.take_length] at this
      exact ⟨_, rfl, this, HB.out⟩

set_option maxHeartbeats 4000000 in
set_option maxRecDepth 100000 in
theorem copied_any (b0 : Nat) (w : World) (v : Value) (m : MsgM) (h : MsgAt b0 w v m) (hf : m.few) :
    Calls Tryd.prog 36 #[v] w fun e w' => ∃ v', e = .returned v' ∧ MsgAt w.heap.size w' v' m ∧ Below w.heap.size w w' := by
  obtain ⟨u1, x1, rfl, hu1, hx1⟩ := h
  have HU := Lib.hid hu1
  obtain ⟨ua, uc, rfl⟩ := pods_len hu1
  obtain ⟨xa, xc, rfl⟩ := own_slicen hx1
  have HX := Lib.hid hx1
  have HF := Lib.hid hf
  clear hu1 hx1 hf
  go_enter Tryd.func36, Tryd.ntmps36
  go_wp2_with fail
  generalize hw5 : World.alloc (World.alloc w _) _ = w5
  have hb5 : Below w.heap.size w w5 := by rw [← hw5]; exact below_alloc' (below_alloc' (Below.refl _ _) _) _
  have z6 : w5.heap[w.heap.size]? = some (.cells #[.int .i64 m.kind, .int .i64 m.src, .int .i64 m.dst, .int .i64 m.gang, .slice ua m.pods.length uc, .slice xa m.peers.length xc, .bool m.yes] 26 (0, 0)) := by rw [← hw5, Below.heap_alloc _ _ _ (by simp)]; exact alloc_at _ _
  have z7 : w5.heap[w.heap.size + 1]? = some (.cells #[.int .i64 0, .int .i64 0, .int .i64 0, .int .i64 0, .slice none 0 0, .slice none 0 0, .bool false] 26 (0, 0)) := by rw [← hw5]; exact alloc_second _ _ _
  clear hw5
  refine (rcopy_any b0 w5 _ m.pods (HU.out.still (Still.of_below hb5)) HF.out.1 HF.out.2.2).mono ?_
  rintro r w6 ⟨v', rfl, hv, hb6⟩
  obtain ⟨va, vc, rfl⟩ := pods_len hv
  have y6 := block_below z6 hb6
  have y7 := block_below z7 hb6
  have q4 := cell_of_block y6 4 _ rfl
  have fr := free_of_block y6 4
  have HS5 := Lib.hid hb5.size
  have HB6 := Lib.hid (below_call hb5 hb6)
  have HV := Lib.hid hv
  have Y6 := Lib.hid y6
  have Y7 := Lib.hid y7
  clear hb5 hb6 z6 z7 hv y6 y7
  go_upto_region 2 with fail
  have hbut := But.set w6 w.heap.size 4 (.slice va m.pods.length vc)
  have hst := hbut.still Y6.out (T := Parts) (by unfold Parts; decide)
  have hB8 : Below w.heap.size w (w6.setCell ⟨w.heap.size, 4, none⟩ (.slice va m.pods.length vc)) := HB6.out.setCell (Nat.le_refl _) _
  have z8 : (w6.setCell ⟨w.heap.size, 4, none⟩ (.slice va m.pods.length vc)).heap[w.heap.size]? = some (.cells #[.int .i64 m.kind, .int .i64 m.src, .int .i64 m.dst, .int .i64 m.gang, .slice va m.pods.length vc, .slice xa m.peers.length xc, .bool m.yes] 26 (0, 0)) := heap_setCell_same _ _ _ _ _ _ Y6.out
  have z9 : (w6.setCell ⟨w.heap.size, 4, none⟩ (.slice va m.pods.length vc)).heap[w.heap.size + 1]? = some (.cells #[.int .i64 0, .int .i64 0, .int .i64 0, .int .i64 0, .slice none 0 0, .slice none 0 0, .bool false] 26 (0, 0)) := by rw [Below.heap_setCell _ _ _ _ (by simp)]; exact Y7.out
  have hv8 := HV.out.still hst
  generalize World.setCell _ _ _ = w8 at hB8 z8 z9 hv8 ⊢
  have q5 : ∀ o, (w8.alloc o).cell? ⟨w.heap.size, 5, none⟩ = some (.slice xa m.peers.length xc) := fun o => cell_of_block (block_below z8 (below_alloc' (Below.refl _ _) _)) 5 _ rfl
  have HX8 := Lib.hid (Ints.still HX.out (Still.of_below hB8))
  have HB8 := Lib.hid hB8
  have HV8 := Lib.hid hv8
  have Z8 := Lib.hid z8
  have Z9 := Lib.hid z9
  clear hbut hst hB8 z8 z9 hv8 HB6 HV Y6 Y7 q4 fr
  go_upto_region 3 with (at_builtin; refine list_app_new elt_ints (.tmp 7) (.tmp 9) rfl rfl (b := w.heap.size) rfl rfl (alloc_at _ _) HB8.out.size (own_ax (own_below HX8.out (below_alloc' (Below.refl _ _) _))) (by simp) (one_ints _) (by have := HF.out.2.1; omega) ?_; intro v' w9 hv hb9; have hz9 := block_below Z8.out (below_call (below_alloc' (Below.refl _ _) _) hb9); obtain ⟨ya, yc, rfl⟩ := own_slicen hv; have p5 := cell_of_block hz9 5 _ rfl; have fr := free_of_block hz9 5; have HV9 := Lib.hid hv; have HB9 := Lib.hid (below_call (below_alloc' (Below.refl w8.heap.size w8) _) hb9); have HZ9 := Lib.hid hz9; clear hv hb9 hz9)
  have hbut := But.set w9 w.heap.size 5 (.slice ya m.peers.length yc)
  have hst := hbut.still HZ9.out (T := Parts) (by unfold Parts; decide)
  have hB10 : Below w.heap.size w (w9.setCell ⟨w.heap.size, 5, none⟩ (.slice ya m.peers.length yc)) := (below_call HB8.out HB9.out).setCell (Nat.le_refl _) _
  have z10 : (w9.setCell ⟨w.heap.size, 5, none⟩ (.slice ya m.peers.length yc)).heap[w.heap.size]? = some (.cells #[.int .i64 m.kind, .int .i64 m.src, .int .i64 m.dst, .int .i64 m.gang, .slice va m.pods.length vc, .slice ya m.peers.length yc, .bool m.yes] 26 (0, 0)) := heap_setCell_same _ _ _ _ _ _ HZ9.out
  have z11 : (w9.setCell ⟨w.heap.size, 5, none⟩ (.slice ya m.peers.length yc)).heap[w.heap.size + 1]? = some (.cells #[.int .i64 0, .int .i64 0, .int .i64 0, .int .i64 0, .slice none 0 0, .slice none 0 0, .bool false] 26 (0, 0)) := by rw [Below.heap_setCell _ _ _ _ (by simp)]; exact block_below Z9.out HB9.out
  have hv10 := (HV8.out.still (Still.of_below HB9.out)).still hst
  have hy10 : Ints w.heap.size (w9.setCell ⟨w.heap.size, 5, none⟩ (.slice ya m.peers.length yc)) (.slice ya m.peers.length yc) m.peers := Ints.still HV9.out hst
  generalize World.setCell _ _ _ = w10 at hB10 z10 z11 hv10 hy10 ⊢
  have m0 := cell_of_block z10 0 _ rfl
  have m1 := cell_of_block z10 1 _ rfl
  have m2 := cell_of_block z10 2 _ rfl
  have m3 := cell_of_block z10 3 _ rfl
  have m4 := cell_of_block z10 4 _ rfl
  have m5 := cell_of_block z10 5 _ rfl
  have m6 := cell_of_block z10 6 _ rfl
  have n0 := cell_of_block z11 0 _ rfl
  have n1 := cell_of_block z11 1 _ rfl
  have n2 := cell_of_block z11 2 _ rfl
  have n3 := cell_of_block z11 3 _ rfl
  have n4 := cell_of_block z11 4 _ rfl
  have n5 := cell_of_block z11 5 _ rfl
  have n6 := cell_of_block z11 6 _ rfl
  have fr2 := free_of_block z11
  have HB10 := Lib.hid hB10
  have HV10 := Lib.hid hv10
  have HY10 := Lib.hid hy10
  have Z11 := Lib.hid z11
  clear hbut hst hB10 z10 z11 hv10 hy10 p5 q5 fr
  go_wp2
  obtain ⟨zf, hbf⟩ := set7 w10 (w.heap.size + 1) _ _ (.int .i64 m.kind) (.int .i64 m.src) (.int .i64 m.dst) (.int .i64 m.gang) (.slice va m.pods.length vc) (.slice ya m.peers.length yc) (.bool m.yes) Z11.out rfl
  generalize hwf : World.setCell _ _ _ = wf at zf hbf ⊢
  clear hwf m0 m1 m2 m3 m4 m5 m6 n0 n1 n2 n3 n4 n5 n6 fr2
  have f0 := cell_of_block zf 0 _ rfl
  have f1 := cell_of_block zf 1 _ rfl
  have f2 := cell_of_block zf 2 _ rfl
  have f3 := cell_of_block zf 3 _ rfl
  have f4 := cell_of_block zf 4 _ rfl
  have f5 := cell_of_block zf 5 _ rfl
  have f6 := cell_of_block zf 6 _ rfl
  have hst := hbf.still Z11.out (T := Parts) (by unfold Parts; decide)
  exact bodyPost_ret (v := .agg #[.int .i64 m.kind, .int .i64 m.src, .int .i64 m.dst, .int .i64 m.gang, .slice va m.pods.length vc, .slice ya m.peers.length yc, .bool m.yes]) (by simp [results, Tryd.results36, go_sem, f0, f1, f2, f3, f4, f5, f6]) rfl
    ⟨_, rfl, ⟨_, _, rfl, (HV10.out.base HS5.out).still hst, Ints.still HY10.out hst⟩, Below.but HB10.out hbf (Nat.le_succ _) HB10.out.size⟩
end Go.Proofs.YtpkkjonajimefaaDoor
