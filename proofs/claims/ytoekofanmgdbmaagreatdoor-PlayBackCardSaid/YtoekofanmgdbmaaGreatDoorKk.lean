/- The reference's comparisons of equal events. -/
import Derived.Test.YtoekofanmgdbmaaGreatDoorKh
import Derived.BigRegion
set_option linter.unusedVariables false
set_option linter.unusedSimpArgs false
namespace Go.Proofs.YtoekofanmgdbmaaGreatDoor
open Go.RowKit

set_option maxHeartbeats 2000000 in
set_option maxRecDepth 100000 in
theorem rows_same (w : World) (v1 v2 : Value) (l : List (List UInt8)) (h1 : Rows w v1 l) (h2 : Rows w v2 l) : Calls Tryz.prog 60 #[v1, v2] w fun e w' => e = .returned (.bool true) ∧ Below w.heap.size w w' := by
  obtain ⟨a1, c1, rfl, hl, hc1⟩ := h1
  obtain ⟨a2, c2, rfl, -, hc2⟩ := h2
  have H1 := Lib.hid hc1
  have H2 := Lib.hid hc2
  clear hc1 hc2
  go_enter Tryz.func60, Tryz.ntmps60
  go_wp2
  go_loopw [5] (fun i wr => ∃ k : Nat, i = .int .i64 k ∧ k ≤ l.length ∧ Below w.heap.size w wr) (fun i _ => l.length - (intOf i).toNat)
  case atStart => exact ⟨0, rfl, Nat.zero_le _, Below.refl _ _⟩
  case round =>
    obtain ⟨k, rfl, hk, hb⟩ := hrel
    have HB := Lib.hid hb
    clear hb
    by_cases hlt : k < l.length
    · have hlt' : (k : Int) < l.length := by omega
      obtain ⟨g1, o1, rfl, cell1⟩ := H1.out k hlt
      obtain ⟨g2, o2, rfl, cell2⟩ := H2.out k hlt
      obtain ⟨x, hx⟩ : ∃ x, str l[k] = x := ⟨_, rfl⟩
      rw [hx] at cell1 cell2
      have hs : ∀ w6, Below wr.drew.heap.size wr.drew w6 → w6.cell? ⟨g1, o1 + k, none⟩ = some (.string x) ∧ w6.cell? ⟨g2, o2 + k, none⟩ = some (.string x) := fun w6 h => ⟨cell_below (w := wr.drew) (cell_below cell1 HB.out.drew) h, cell_below (w := wr.drew) (cell_below cell2 HB.out.drew) h⟩
      have HS := Lib.hid hs
      clear hs cell1 cell2 hx
      go_wp2
      refine' Par.wp_region_pars (fun w w' => Below w.heap.size w w') 9 (by kernel_rfl) (by kernel_rfl) (by kernel_rfl) (by kernel_rfl) (by kernel_rfl) (by kernel_rfl)
        (fun w => Below.refl _ w) (fun h k => below_call h k) (fun vals => ?_)
      rotate_left
      simp only [List.take_succ_cons, List.take_zero, List.drop_succ_cons, List.drop_zero]
      (apply Par.par_x rfl; (focus (intro w6 hR hD K hK; replace hK := Lib.hid hK; obtain ⟨e0, e1⟩ := HS.out w6 hR; clear hR hD; go_simp; exact hK.out _ (Below.refl _ _))); simp only [Act.put, List.setIfInBounds_toArray, List.set_cons_zero, List.set_cons_succ, Nat.reduceAdd, List.cons_append, List.nil_append])
      (apply Par.par_x rfl; (focus (intro w6 hR hD K hK; replace hK := Lib.hid hK; obtain ⟨e0, e1⟩ := HS.out w6 hR; clear hR hD; go_simp; exact hK.out _ (Below.refl _ _))); simp only [Act.put, List.setIfInBounds_toArray, List.set_cons_zero, List.set_cons_succ, Nat.reduceAdd, List.cons_append, List.nil_append])
      (apply Par.par_x rfl; (focus (intro w6 hR hD K hK; replace hK := Lib.hid hK; obtain ⟨e0, e1⟩ := HS.out w6 hR; clear hR hD; go_simp; exact hK.out _ (Below.refl _ _))); simp only [Act.put, List.setIfInBounds_toArray, List.set_cons_zero, List.set_cons_succ, Nat.reduceAdd, List.cons_append, List.nil_append])
      (apply Par.par_x rfl; (focus (intro w6 hR hD K hK; replace hK := Lib.hid hK; obtain ⟨e0, e1⟩ := HS.out w6 hR; clear hR hD; go_simp; exact hK.out _ (Below.refl _ _))); simp only [Act.put, List.setIfInBounds_toArray, List.set_cons_zero, List.set_cons_succ, Nat.reduceAdd, List.cons_append, List.nil_append])
      (apply Par.par_x rfl; (focus (intro w6 hR hD K hK; replace hK := Lib.hid hK; obtain ⟨e0, e1⟩ := HS.out w6 hR; clear hR hD; go_simp; exact hK.out _ (Below.refl _ _))); simp only [Act.put, List.setIfInBounds_toArray, List.set_cons_zero, List.set_cons_succ, Nat.reduceAdd, List.cons_append, List.nil_append])
      (apply Par.par_x rfl; (focus (intro w6 hR hD K hK; replace hK := Lib.hid hK; obtain ⟨e0, e1⟩ := HS.out w6 hR; clear hR hD; go_simp; exact hK.out _ (Below.refl _ _))); simp only [Act.put, List.setIfInBounds_toArray, List.set_cons_zero, List.set_cons_succ, Nat.reduceAdd, List.cons_append, List.nil_append])
      (apply Par.par_x rfl; (focus (intro w6 hR hD K hK; replace hK := Lib.hid hK; obtain ⟨e0, e1⟩ := HS.out w6 hR; clear hR hD; go_simp; exact hK.out _ (Below.refl _ _))); simp only [Act.put, List.setIfInBounds_toArray, List.set_cons_zero, List.set_cons_succ, Nat.reduceAdd, List.cons_append, List.nil_append])
      (apply Par.par_x rfl; (focus (intro w6 hR hD K hK; replace hK := Lib.hid hK; obtain ⟨e0, e1⟩ := HS.out w6 hR; clear hR hD; go_simp; exact hK.out _ (Below.refl _ _))); simp only [Act.put, List.setIfInBounds_toArray, List.set_cons_zero, List.set_cons_succ, Nat.reduceAdd, List.cons_append, List.nil_append])
      (apply Par.par_x rfl; (focus (intro w6 hR hD K hK; replace hK := Lib.hid hK; obtain ⟨e0, e1⟩ := HS.out w6 hR; clear hR hD; go_simp; exact hK.out _ (Below.refl _ _))); simp only [Act.put, List.setIfInBounds_toArray, List.set_cons_zero, List.set_cons_succ, Nat.reduceAdd, List.cons_append, List.nil_append])
      refine Par.par_end fun w6 hR hp => ?_
      clear hp
      have HB6 := Lib.hid (below_call HB.out.drew hR)
      clear hR HS
      go_wp2
      go_roundw
      case rel => exact ⟨k + 1, by go_num, by omega, HB6.out⟩
      case measure => simp [intOf]; omega
    · obtain rfl : k = l.length := by omega
      go_wp2
      go_ret
      exact ⟨rfl, HB.out⟩
theorem PodT.rows {base : Nat} {w : World} {cs : List Value} {p : PodL} (h : PodT base w cs p) : ∃ u v, cs = [.string (str p.name), .int .i64 p.shard, .int .i64 p.cpu, .int .i64 p.mem, u, v, .bool p.alone] ∧ Rows w u p.picks ∧ Rows w v p.bears := by
  obtain ⟨u, v, e, h1, h2⟩ := h
  exact ⟨u, v, e, h1.rows, h2.rows⟩
theorem podsT_len {b : Nat} {w : World} {v : Value} {l : List PodL} (h : PodsT b w v l) : ∃ a c, v = .slice a l.length c := by
  obtain ⟨_, h, _⟩ := h
  exact own_slicen h
/-- The seven cells of one pod of a row. -/
theorem podsT_cells {b : Nat} {w : World} {a : Option Addr} {n c : Nat} {l : List PodL} (h : PodsT b w (.slice a n c) l) {k : Nat} (hk : k < l.length) :
    ∃ g u v, a = some ⟨g, 0, none⟩ ∧ (∀ j x, [Value.string (str l[k].name), .int .i64 l[k].shard, .int .i64 l[k].cpu, .int .i64 l[k].mem, u, v, .bool l[k].alone][j]? = some x → w.cell? ⟨g, k * 7 + j, none⟩ = some x) ∧ Rows w u l[k].picks ∧ Rows w v l[k].bears := by
  obtain ⟨cc, h1, h2⟩ := h
  obtain ⟨g, cap, e, _⟩ := (own_forms h1).resolve_left (by rintro ⟨_, h, _⟩; omega)
  injection e with e1 e2 e3
  subst e1 e2 e3
  obtain ⟨u, v, e, h3, h4⟩ := (h2 k hk).rows
  refine ⟨g, u, v, rfl, fun j x hx => ?_, h3, h4⟩
  have hj : j < 7 := by
    have := (List.getElem?_eq_some_iff.1 hx).1
    exact this
  rw [h1.cellAt _ (by have := Nat.mul_le_mul_right 7 (show k + 1 ≤ l.length from hk); omega), flat_get (s := 7) (fun i hi => (h2 i hi).len) hk hj, e]
  exact hx

set_option maxHeartbeats 4000000 in
set_option maxRecDepth 100000 in
theorem podsT_same (b1 b2 : Nat) (w : World) (v1 v2 : Value) (l : List PodL) (h1 : PodsT b1 w v1 l) (h2 : PodsT b2 w v2 l) (hl : l.length ≤ 1099511627776) : Calls Tryz.prog 29 #[v1, v2] w fun e w' => e = .returned (.bool true) ∧ Below w.heap.size w w' := by
  obtain ⟨a1, c1, rfl⟩ := podsT_len h1
  obtain ⟨a2, c2, rfl⟩ := podsT_len h2
  have H1 := Lib.hid h1
  have H2 := Lib.hid h2
  clear h1 h2
  go_enter Tryz.func29, Tryz.ntmps29
  go_wp2
  go_loopw [5] (fun i wr => ∃ k : Nat, i = .int .i64 k ∧ k ≤ l.length ∧ Below w.heap.size w wr) (fun i _ => l.length - (intOf i).toNat)
  case atStart => exact ⟨0, rfl, Nat.zero_le _, Below.refl _ _⟩
  case round =>
    obtain ⟨k, rfl, hk, hb⟩ := hrel
    have HB := Lib.hid hb
    clear hb
    by_cases hlt : k < l.length
    · have hlt' : (k : Int) < l.length := by omega
      obtain ⟨g1, u1, x1, rfl, hc1, hu1, hx1⟩ := podsT_cells H1.out hlt
      obtain ⟨g2, u2, x2, rfl, hc2, hu2, hx2⟩ := podsT_cells H2.out hlt
      obtain ⟨pk, hpk⟩ : ∃ pk, l[k] = pk := ⟨_, rfl⟩
      rw [hpk] at hc1 hu1 hx1 hc2 hu2 hx2
      obtain ⟨zn, hzn⟩ : ∃ zn, str pk.name = zn := ⟨_, rfl⟩
      rw [hzn] at hc1 hc2
      obtain ⟨ua1, uc1, rfl, _⟩ := id hu1
      obtain ⟨ua2, uc2, rfl, _⟩ := id hu2
      obtain ⟨xa1, xc1, rfl, _⟩ := id hx1
      obtain ⟨xa2, xc2, rfl, _⟩ := id hx2
      obtain ⟨ul1, hul1⟩ : ∃ z, pk.picks.length = z := ⟨_, rfl⟩
      obtain ⟨xl1, hxl1⟩ : ∃ z, pk.bears.length = z := ⟨_, rfl⟩
      rw [hul1] at hc1 hc2 hu1 hu2
      rw [hxl1] at hc1 hc2 hx1 hx2
      clear hul1 hxl1
      have p0 : wr.cell? ⟨g1, k * 7, none⟩ = some (.string zn) := cell_below (hc1 0 _ rfl) HB.out
      have q0 : wr.cell? ⟨g2, k * 7, none⟩ = some (.string zn) := cell_below (hc2 0 _ rfl) HB.out
      have p1 := cell_below (hc1 1 _ rfl) HB.out
      have q1 := cell_below (hc2 1 _ rfl) HB.out
      have p2 := cell_below (hc1 2 _ rfl) HB.out
      have q2 := cell_below (hc2 2 _ rfl) HB.out
      have p3 := cell_below (hc1 3 _ rfl) HB.out
      have q3 := cell_below (hc2 3 _ rfl) HB.out
      have p4 := cell_below (hc1 4 _ rfl) HB.out
      have q4 := cell_below (hc2 4 _ rfl) HB.out
      have p5 := cell_below (hc1 5 _ rfl) HB.out
      have q5 := cell_below (hc2 5 _ rfl) HB.out
      have p6 := cell_below (hc1 6 _ rfl) HB.out
      have q6 := cell_below (hc2 6 _ rfl) HB.out
      have hb1 : g1 < wr.heap.size := World.block_lt_of_cell? wr _ p0
      have hb2 : g2 < wr.heap.size := World.block_lt_of_cell? wr _ q0
      have hn1 : g1 ≠ wr.heap.size := by omega
      have hn2 : g2 ≠ wr.heap.size := by omega
      have hn3 : g1 ≠ wr.heap.size + 1 := by omega
      have hn4 : g2 ≠ wr.heap.size + 1 := by omega
      have HU1 := Lib.hid hu1
      have HU2 := Lib.hid hu2
      have HX1 := Lib.hid hx1
      have HX2 := Lib.hid hx2
      clear hc1 hc2 hu1 hu2 hx1 hx2 hpk hzn
      go_wp2
      go_region
      all_goals clear p0 p1 p2 p3 p4 p5 p6 q0 q1 q2 q3 q4 q5 q6 hn1 hn2 hn3 hn4 hb1 hb2
      · generalize hw5 : World.drew _ = w5
        have hb5 : Below wr.heap.size wr w5 := by rw [← hw5]; exact (below_alloc' (below_alloc' (Below.refl _ _) _) _).drew
        have z6 : w5.heap[wr.heap.size]? = some (.cells #[.string zn, .int .i64 pk.shard, .int .i64 pk.cpu, .int .i64 pk.mem, .slice ua1 ul1 uc1, .slice xa1 xl1 xc1, .bool pk.alone] 57 (0, 0)) := by rw [← hw5]; (show (World.alloc (World.alloc _ _) _).heap[_]? = _); rw [Below.heap_alloc _ _ _ (by simp)]; exact alloc_at _ _
        have z7 : w5.heap[wr.heap.size + 1]? = some (.cells #[.string zn, .int .i64 pk.shard, .int .i64 pk.cpu, .int .i64 pk.mem, .slice ua2 ul1 uc2, .slice xa2 xl1 xc2, .bool pk.alone] 57 (0, 0)) := by rw [← hw5]; exact alloc_second _ _ _
        clear hw5
        have a0 := cell_of_block z6 0 _ rfl
        have a1 := cell_of_block z6 1 _ rfl
        have a2 := cell_of_block z6 2 _ rfl
        have a3 := cell_of_block z6 3 _ rfl
        have a4 := cell_of_block z6 4 _ rfl
        have a6 := cell_of_block z6 6 _ rfl
        have b0 := cell_of_block z7 0 _ rfl
        have b1 := cell_of_block z7 1 _ rfl
        have b2 := cell_of_block z7 2 _ rfl
        have b3 := cell_of_block z7 3 _ rfl
        have b4 := cell_of_block z7 4 _ rfl
        have b6 := cell_of_block z7 6 _ rfl
        have Z6 := Lib.hid z6
        have Z7 := Lib.hid z7
        have HB5 := Lib.hid (below_call HB.out hb5)
        clear z6 z7 hb5
        go_wp2_with fail
        refine (rows_same w5 _ _ pk.picks (HU1.out.below HB5.out) (HU2.out.below HB5.out)).mono ?_
        rintro r w7 ⟨rfl, hb⟩
        have HB7 := Lib.hid (below_call HB5.out hb)
        have d5 := cell_of_block (block_below Z6.out hb) 5 _ rfl
        have e5 := cell_of_block (block_below Z7.out hb) 5 _ rfl
        clear hb a0 a1 a2 a3 a4 a6 b0 b1 b2 b3 b4 b6
        go_wp2_with fail
        refine (rows_same w7 _ _ pk.bears (HX1.out.below HB7.out) (HX2.out.below HB7.out)).mono ?_
        rintro r w8 ⟨rfl, hb⟩
        have HB8 := Lib.hid (below_call HB7.out hb)
        clear hb d5 e5
        go_wp2
        go_roundw
        case rel => exact ⟨k + 1, by go_num, by omega, HB8.out⟩
        case measure => simp [intOf]; omega
      · generalize hw5 : World.drew _ = w5
        have hb5 : Below wr.heap.size wr w5 := by rw [← hw5]; exact (below_alloc' (below_alloc' (Below.refl _ _) _) _).drew
        have z6 : w5.heap[wr.heap.size + 1]? = some (.cells #[.string zn, .int .i64 pk.shard, .int .i64 pk.cpu, .int .i64 pk.mem, .slice ua1 ul1 uc1, .slice xa1 xl1 xc1, .bool pk.alone] 57 (0, 0)) := by rw [← hw5]; exact alloc_second _ _ _
        have z7 : w5.heap[wr.heap.size]? = some (.cells #[.string zn, .int .i64 pk.shard, .int .i64 pk.cpu, .int .i64 pk.mem, .slice ua2 ul1 uc2, .slice xa2 xl1 xc2, .bool pk.alone] 57 (0, 0)) := by rw [← hw5]; (show (World.alloc (World.alloc _ _) _).heap[_]? = _); rw [Below.heap_alloc _ _ _ (by simp)]; exact alloc_at _ _
        clear hw5
        have a0 := cell_of_block z6 0 _ rfl
        have a1 := cell_of_block z6 1 _ rfl
        have a2 := cell_of_block z6 2 _ rfl
        have a3 := cell_of_block z6 3 _ rfl
        have a4 := cell_of_block z6 4 _ rfl
        have a6 := cell_of_block z6 6 _ rfl
        have b0 := cell_of_block z7 0 _ rfl
        have b1 := cell_of_block z7 1 _ rfl
        have b2 := cell_of_block z7 2 _ rfl
        have b3 := cell_of_block z7 3 _ rfl
        have b4 := cell_of_block z7 4 _ rfl
        have b6 := cell_of_block z7 6 _ rfl
        have Z6 := Lib.hid z6
        have Z7 := Lib.hid z7
        have HB5 := Lib.hid (below_call HB.out hb5)
        clear z6 z7 hb5
        go_wp2_with fail
        refine (rows_same w5 _ _ pk.picks (HU1.out.below HB5.out) (HU2.out.below HB5.out)).mono ?_
        rintro r w7 ⟨rfl, hb⟩
        have HB7 := Lib.hid (below_call HB5.out hb)
        have d5 := cell_of_block (block_below Z6.out hb) 5 _ rfl
        have e5 := cell_of_block (block_below Z7.out hb) 5 _ rfl
        clear hb a0 a1 a2 a3 a4 a6 b0 b1 b2 b3 b4 b6
        go_wp2_with fail
        refine (rows_same w7 _ _ pk.bears (HX1.out.below HB7.out) (HX2.out.below HB7.out)).mono ?_
        rintro r w8 ⟨rfl, hb⟩
        have HB8 := Lib.hid (below_call HB7.out hb)
        clear hb d5 e5
        go_wp2
        go_roundw
        case rel => exact ⟨k + 1, by go_num, by omega, HB8.out⟩
        case measure => simp [intOf]; omega
    · obtain rfl : k = l.length := by omega
      go_wp2
      go_ret
      exact ⟨rfl, HB.out⟩
end Go.Proofs.YtoekofanmgdbmaaGreatDoor
/-! Law 15's Same of two events that are the same. -/
set_option linter.unusedVariables false
set_option linter.unusedSimpArgs false
namespace Go.Proofs.YtoekofanmgdbmaaGreatDoor
open Go.RowKit

set_option maxHeartbeats 4000000 in
set_option maxRecDepth 100000 in
theorem nodes_same (w : World) (zn : ByteArray) (n2 n3 : Nat) (fl : Bool) (u1 x1 u2 x2 : Value) (ls ts : List (List UInt8)) (hu1 : Rows w u1 ls) (hx1 : Rows w x1 ts) (hu2 : Rows w u2 ls) (hx2 : Rows w x2 ts) :
    Calls Tryz.prog 30 #[.agg #[.string zn, .int .i64 n2, .int .i64 n3, u1, x1, .bool fl], .agg #[.string zn, .int .i64 n2, .int .i64 n3, u2, x2, .bool fl]] w fun e w' => e = .returned (.bool true) ∧ Below w.heap.size w w' := by
  obtain ⟨ua1, uc1, rfl, _⟩ := id hu1
  obtain ⟨ua2, uc2, rfl, _⟩ := id hu2
  obtain ⟨xa1, xc1, rfl, _⟩ := id hx1
  obtain ⟨xa2, xc2, rfl, _⟩ := id hx2
  obtain ⟨ul, hul⟩ : ∃ z, ls.length = z := ⟨_, rfl⟩
  obtain ⟨xl, hxl⟩ : ∃ z, ts.length = z := ⟨_, rfl⟩
  rw [hul] at hu1 hu2 ⊢
  rw [hxl] at hx1 hx2 ⊢
  have HU1 := Lib.hid hu1
  have HU2 := Lib.hid hu2
  have HX1 := Lib.hid hx1
  have HX2 := Lib.hid hx2
  clear hu1 hu2 hx1 hx2 hul hxl
  go_enter Tryz.func30, Tryz.ntmps30
  go_wp2_with fail
  generalize hw5 : World.alloc (World.alloc w _) _ = w5
  have hb5 : Below w.heap.size w w5 := by rw [← hw5]; exact below_alloc' (below_alloc' (Below.refl _ _) _) _
  have z6 : w5.heap[w.heap.size]? = some (.cells #[.string zn, .int .i64 n2, .int .i64 n3, .slice ua1 ul uc1, .slice xa1 xl xc1, .bool fl] 31 (0, 0)) := by rw [← hw5, Below.heap_alloc _ _ _ (by simp)]; exact alloc_at _ _
  have z7 : w5.heap[w.heap.size + 1]? = some (.cells #[.string zn, .int .i64 n2, .int .i64 n3, .slice ua2 ul uc2, .slice xa2 xl xc2, .bool fl] 31 (0, 0)) := by rw [← hw5]; exact alloc_second _ _ _
  clear hw5
  have HB5 := Lib.hid hb5
  have Z6 := Lib.hid z6
  have Z7 := Lib.hid z7
  clear hb5 z6 z7
  refine (rows_same w5 _ _ ls (HU1.out.below HB5.out) (HU2.out.below HB5.out)).mono ?_
  rintro r w7 ⟨rfl, hb⟩
  have HB7 := Lib.hid (below_call HB5.out hb)
  have d5 := cell_of_block (block_below Z6.out hb) 4 _ rfl
  have e5 := cell_of_block (block_below Z7.out hb) 4 _ rfl
  clear hb
  go_wp2_with fail
  refine (rows_same w7 _ _ ts (HX1.out.below HB7.out) (HX2.out.below HB7.out)).mono ?_
  rintro r w8 ⟨rfl, hb⟩
  have HB8 := Lib.hid (below_call HB7.out hb)
  clear hb d5 e5
  go_wp2
  go_ret
  exact ⟨rfl, HB8.out⟩
set_option maxHeartbeats 4000000 in
set_option maxRecDepth 100000 in
theorem ev_same (b1 b2 : Nat) (w : World) (v1 v2 : Value) (k : Nat) (s : EvS) (h1 : EvR b1 w v1 k s) (h2 : EvR b2 w v2 k s) (hb : EvB k s) :
    Calls Tryz.prog 12 #[v1, v2] w fun e w' => e = .returned (.bool true) ∧ Below w.heap.size w w' := by
  obtain ⟨p1, u1, x1, rfl, hp1, hu1, hx1⟩ := h1
  obtain ⟨p2, u2, x2, rfl, hp2, hu2, hx2⟩ := h2
  have hu1 := Strs.rows hu1 hb.node.2.2.2.1
  have hu2 := Strs.rows hu2 hb.node.2.2.2.1
  have hx1 := Strs.rows hx1 hb.node.2.2.2.2
  have hx2 := Strs.rows hx2 hb.node.2.2.2.2
  obtain ⟨pa1, pc1, rfl⟩ := podsT_len hp1
  obtain ⟨pa2, pc2, rfl⟩ := podsT_len hp2
  obtain ⟨ua1, uc1, rfl, _⟩ := id hu1
  obtain ⟨ua2, uc2, rfl, _⟩ := id hu2
  obtain ⟨xa1, xc1, rfl, _⟩ := id hx1
  obtain ⟨xa2, xc2, rfl, _⟩ := id hx2
  have HF := Lib.hid hb.few
  obtain ⟨a, b, i, ps, ⟨nm, n2, n3, ls, ts, fl⟩⟩ := s
  simp only at hp1 hp2 hu1 hu2 hx1 hx2 HF ⊢
  obtain ⟨zn, hzn⟩ : ∃ z, str nm = z := ⟨_, rfl⟩
  rw [hzn]
  obtain ⟨pl, hpl⟩ : ∃ z, ps.length = z := ⟨_, rfl⟩
  obtain ⟨ul, hul⟩ : ∃ z, ls.length = z := ⟨_, rfl⟩
  obtain ⟨xl, hxl⟩ : ∃ z, ts.length = z := ⟨_, rfl⟩
  rw [hpl] at hp1 hp2 HF ⊢
  rw [hul] at hu1 hu2 ⊢
  rw [hxl] at hx1 hx2 ⊢
  have HP1 := Lib.hid hp1
  have HP2 := Lib.hid hp2
  have HU1 := Lib.hid hu1
  have HU2 := Lib.hid hu2
  have HX1 := Lib.hid hx1
  have HX2 := Lib.hid hx2
  have HPL := Lib.hid hpl
  clear hp1 hp2 hu1 hu2 hx1 hx2 hpl hul hxl hb hzn
  go_enter Tryz.func12, Tryz.ntmps12
  go_wp2_with fail
  generalize hw5 : World.alloc (World.alloc w _) _ = w5
  have hb5 : Below w.heap.size w w5 := by rw [← hw5]; exact below_alloc' (below_alloc' (Below.refl _ _) _) _
  have z6 : w5.heap[w.heap.size]? = some (.cells #[.int .i64 k, .int .i64 a, .int .i64 b, .int .i64 i, .slice pa1 pl pc1, .string zn, .int .i64 n2, .int .i64 n3, .slice ua1 ul uc1, .slice xa1 xl xc1, .bool fl] 33 (0, 0)) := by rw [← hw5, Below.heap_alloc _ _ _ (by simp)]; exact alloc_at _ _
  have z7 : w5.heap[w.heap.size + 1]? = some (.cells #[.int .i64 k, .int .i64 a, .int .i64 b, .int .i64 i, .slice pa2 pl pc2, .string zn, .int .i64 n2, .int .i64 n3, .slice ua2 ul uc2, .slice xa2 xl xc2, .bool fl] 34 (0, 0)) := by rw [← hw5]; exact alloc_second _ _ _
  clear hw5
  have HB5 := Lib.hid hb5
  have Z6 := Lib.hid z6
  have Z7 := Lib.hid z7
  clear hb5 z6 z7
  refine (podsT_same b1 b2 w5 _ _ ps (HP1.out.below HB5.out) (HP2.out.below HB5.out) (by rw [HPL.out]; have := HF.out; omega)).mono ?_
  rintro r w7 ⟨rfl, hb⟩
  have HB7 := Lib.hid (below_call HB5.out hb)
  have y6 := block_below Z6.out hb
  have y7 := block_below Z7.out hb
  have d5 := cell_of_block y6 5 _ rfl
  have d6 := cell_of_block y6 6 _ rfl
  have d7 := cell_of_block y6 7 _ rfl
  have d8 := cell_of_block y6 8 _ rfl
  have d9 := cell_of_block y6 9 _ rfl
  have d10 := cell_of_block y6 10 _ rfl
  have e5 := cell_of_block y7 5 _ rfl
  have e6 := cell_of_block y7 6 _ rfl
  have e7 := cell_of_block y7 7 _ rfl
  have e8 := cell_of_block y7 8 _ rfl
  have e9 := cell_of_block y7 9 _ rfl
  have e10 := cell_of_block y7 10 _ rfl
  clear hb y6 y7
  go_wp2_with fail
  refine (nodes_same w7 _ _ _ _ _ _ _ _ ls ts (HU1.out.below HB7.out) (HX1.out.below HB7.out) (HU2.out.below HB7.out) (HX2.out.below HB7.out)).mono ?_
  rintro r w8 ⟨rfl, hb⟩
  have HB8 := Lib.hid (below_call HB7.out hb)
  clear hb d5 d6 d7 d8 d9 d10 e5 e6 e7 e8 e9 e10
  go_wp2
  go_ret
  exact ⟨rfl, HB8.out⟩
end Go.Proofs.YtoekofanmgdbmaaGreatDoor
