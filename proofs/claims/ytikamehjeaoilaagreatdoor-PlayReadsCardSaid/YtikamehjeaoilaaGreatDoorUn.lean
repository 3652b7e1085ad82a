/- The reference's comparisons of equal events. -/
import Derived.Test.YtikamehjeaoilaaGreatDoorKn
import Derived.BigRegion
import Derived.Test.YtikamehjeaoilaaGreatDoorUk
set_option linter.unusedVariables false
set_option linter.unusedSimpArgs false
namespace Go.Proofs.YtikamehjeaoilaaGreatDoor
open Go.RowKit

set_option maxHeartbeats 2000000 in
set_option maxRecDepth 100000 in
theorem rows_same (w : World) (v1 v2 : Value) (l : List (List UInt8)) (h1 : Rows w v1 l) (h2 : Rows w v2 l) : Calls Tryz.prog 52 #[v1, v2] w fun e w' => e = .returned (.bool true) ∧ Below w.heap.size w w' := by
  obtain ⟨a1, c1, rfl, hl, hc1⟩ := h1
  obtain ⟨a2, c2, rfl, -, hc2⟩ := h2
  have H1 := Lib.hid hc1
  have H2 := Lib.hid hc2
  clear hc1 hc2
  go_enter Tryz.func52, Tryz.ntmps52
  go_wp2
  go_loopw [5] (fun i wr => ∃ k : Nat, i = .int .i64 k ∧ k ≤ l.length ∧ Below w.heap.size w wr) (fun i _ => l.length - (intOf i).toNat)
  case atStart => exact ⟨0, rfl, Nat.zero_le _, Below.refl _ _⟩
  case round =>
    obtain ⟨k, rfl, hk, hb⟩ := hrel
    have HB := Lib.hid hb
    clear hb
    by_cases hlt : k < l.length
    · have hlt' : (k : Int) < l.length := by omega
      obtain ⟨g1, o1, rfl, cell1⟩ := H1.out k hlt
      obtain ⟨g2, o2, rfl, cell2⟩ := H2.out k hlt
      obtain ⟨x, hx⟩ : ∃ x, str l[k] = x := ⟨_, rfl⟩
      rw [hx] at cell1 cell2
      have hs : ∀ w6, Below wr.drew.heap.size wr.drew w6 → w6.cell? ⟨g1, o1 + k, none⟩ = some (.string x) ∧ w6.cell? ⟨g2, o2 + k, none⟩ = some (.string x) := fun w6 h => ⟨cell_below (w := wr.drew) (cell_below cell1 HB.out.drew) h, cell_below (w := wr.drew) (cell_below cell2 HB.out.drew) h⟩
      have HS := Lib.hid hs
      clear hs cell1 cell2 hx
      go_wp2
      refine' Par.wp_region_pars (fun w w' => Below w.heap.size w w') 9 (by kernel_rfl) (by kernel_rfl) (by kernel_rfl) (by kernel_rfl) (by kernel_rfl) (by kernel_rfl)
        (fun w => Below.refl _ w) (fun h k => below_call h k) (fun vals => ?_)
      rotate_left
      simp only [List.take_succ_cons, List.take_zero, List.drop_succ_cons, List.drop_zero]
      iterate 9 (apply Par.par_x rfl; (focus (intro w6 hR hD K hK; replace hK := Lib.hid hK; obtain ⟨e0, e1⟩ := HS.out w6 hR; clear hR hD; go_simp; exact hK.out _ (Below.refl _ _))); simp only [Act.put, List.setIfInBounds_toArray, List.set_cons_zero, List.set_cons_succ, Nat.reduceAdd, List.cons_append, List.nil_append])
      refine Par.par_end fun w6 hR hp => ?_
      clear hp
      have HB6 := Lib.hid (below_call HB.out.drew hR)
      clear hR HS
      go_wp2
      go_roundw
      case rel => exact ⟨k + 1, by go_num, by omega, HB6.out⟩
      case measure => simp [intOf]; omega
    · obtain rfl : k = l.length := by omega
      go_wp2
      go_ret
      exact ⟨rfl, HB.out⟩
theorem PodT.rows {base : Nat} {w : World} {cs : List Value} {p : PodL} (h : PodT base w cs p) : ∃ u v, cs = [.string (str p.name), .int .i64 p.shard, .int .i64 p.cpu, .int .i64 p.mem, u, v, .bool p.alone] ∧ Rows w u p.picks ∧ Rows w v p.bears := by
  obtain ⟨u, v, e, h1, h2⟩ := h
  exact ⟨u, v, e, h1.rows, h2.rows⟩
theorem podsT_len {b : Nat} {w : World} {v : Value} {l : List PodL} (h : PodsT b w v l) : ∃ a c, v = .slice a l.length c := by
  obtain ⟨_, h, _⟩ := h
  exact own_slicen h
/-- The seven cells of one pod of a row. -/
theorem podsT_cells {b : Nat} {w : World} {a : Option Addr} {n c : Nat} {l : List PodL} (h : PodsT b w (.slice a n c) l) {k : Nat} (hk : k < l.length) :
    ∃ g u v, a = some ⟨g, 0, none⟩ ∧ (∀ j x, [Value.string (str l[k].name), .int .i64 l[k].shard, .int .i64 l[k].cpu, .int .i64 l[k].mem, u, v, .bool l[k].alone][j]? = some x → w.cell? ⟨g, k * 7 + j, none⟩ = some x) ∧ Rows w u l[k].picks ∧ Rows w v l[k].bears := by
  obtain ⟨cc, h1, h2⟩ := h
  obtain ⟨g, cap, e, _⟩ := (own_forms h1).resolve_left (by rintro ⟨_, h, _⟩; omega)
  injection e with e1 e2 e3
  subst e1 e2 e3
  obtain ⟨u, v, e, h3, h4⟩ := (h2 k hk).rows
  refine ⟨g, u, v, rfl, fun j x hx => ?_, h3, h4⟩
  have hj : j < 7 := by
    have := (List.getElem?_eq_some_iff.1 hx).1
    exact this
  rw [h1.cellAt _ (by have := Nat.mul_le_mul_right 7 (show k + 1 ≤ l.length from hk); omega), flat_get (s := 7) (fun i hi => (h2 i hi).len) hk hj, e]
  exact hx

set_option maxHeartbeats 4000000 in
set_option maxRecDepth 100000 in
theorem podsT_same (b1 b2 : Nat) (w : World) (v1 v2 : Value) (l : List PodL) (h1 : PodsT b1 w v1 l) (h2 : PodsT b2 w v2 l) (hl : l.length ≤ 1099511627776) : Calls Tryz.prog 26 #[v1, v2] w fun e w' => e = .returned (.bool true) ∧ Below w.heap.size w w' := by
  obtain ⟨a1, c1, rfl⟩ := podsT_len h1
  obtain ⟨a2, c2, rfl⟩ := podsT_len h2
  have H1 := Lib.hid h1
  have H2 := Lib.hid h2
  clear h1 h2
  go_enter Tryz.func26, Tryz.ntmps26
  go_wp2
  go_loopw [5] (fun i wr => ∃ k : Nat, i = .int .i64 k ∧ k ≤ l.length ∧ Below w.heap.size w wr) (fun i _ => l.length - (intOf i).toNat)
  case atStart => exact ⟨0, rfl, Nat.zero_le _, Below.refl _ _⟩
  case round =>
    obtain ⟨k, rfl, hk, hb⟩ := hrel
    have HB := Lib.hid hb
    clear hb
    by_cases hlt : k < l.length
    · have hlt' : (k : Int) < l.length := by omega
      obtain ⟨g1, u1, x1, rfl, hc1, hu1, hx1⟩ := podsT_cells H1.out hlt
      obtain ⟨g2, u2, x2, rfl, hc2, hu2, hx2⟩ := podsT_cells H2.out hlt
      obtain ⟨pk, hpk⟩ : ∃ pk, l[k] = pk := ⟨_, rfl⟩
      rw [hpk] at hc1 hu1 hx1 hc2 hu2 hx2
      obtain ⟨zn, hzn⟩ : ∃ zn, str pk.name = zn := ⟨_, rfl⟩
      rw [hzn] at hc1 hc2
      obtain ⟨ua1, uc1, rfl, _⟩ := id hu1
      obtain ⟨ua2, uc2, rfl, _⟩ := id hu2
      obtain ⟨xa1, xc1, rfl, _⟩ := id hx1
      obtain ⟨xa2, xc2, rfl, _⟩ := id hx2
      obtain ⟨ul1, hul1⟩ : ∃ z, pk.picks.length = z := ⟨_, rfl⟩
      obtain ⟨xl1, hxl1⟩ : ∃ z, pk.bears.length = z := ⟨_, rfl⟩
      rw [hul1] at hc1 hc2 hu1 hu2
      rw [hxl1] at hc1 hc2 hx1 hx2
      clear hul1 hxl1
      have p0 : wr.cell? ⟨g1, k * 7, none⟩ = some (.string zn) := cell_below (hc1 0 _ rfl) HB.out
      have q0 : wr.cell? ⟨g2, k * 7, none⟩ = some (.string zn) := cell_below (hc2 0 _ rfl) HB.out
      have p1 := cell_below (hc1 1 _ rfl) HB.out
      have q1 := cell_below (hc2 1 _ rfl) HB.out
      have p2 := cell_below (hc1 2 _ rfl) HB.out
      have q2 := cell_below (hc2 2 _ rfl) HB.out
      have p3 := cell_below (hc1 3 _ rfl) HB.out
      have q3 := cell_below (hc2 3 _ rfl) HB.out
      have p4 := cell_below (hc1 4 _ rfl) HB.out
      have q4 := cell_below (hc2 4 _ rfl) HB.out
      have p5 := cell_below (hc1 5 _ rfl) HB.out
      have q5 := cell_below (hc2 5 _ rfl) HB.out
      have p6 := cell_below (hc1 6 _ rfl) HB.out
      have q6 := cell_below (hc2 6 _ rfl) HB.out
      have hb1 : g1 < wr.heap.size := World.block_lt_of_cell? wr _ p0
      have hb2 : g2 < wr.heap.size := World.block_lt_of_cell? wr _ q0
      have hn1 : g1 ≠ wr.heap.size := by omega
      have hn2 : g2 ≠ wr.heap.size := by omega
      have hn3 : g1 ≠ wr.heap.size + 1 := by omega
      have hn4 : g2 ≠ wr.heap.size + 1 := by omega
      have HU1 := Lib.hid hu1
      have HU2 := Lib.hid hu2
      have HX1 := Lib.hid hx1
      have HX2 := Lib.hid hx2
      clear hc1 hc2 hu1 hu2 hx1 hx2 hpk hzn
      go_wp2
      go_region
      all_goals clear p0 p1 p2 p3 p4 p5 p6 q0 q1 q2 q3 q4 q5 q6 hn1 hn2 hn3 hn4 hb1 hb2
      · generalize hw5 : World.drew _ = w5
        have hb5 : Below wr.heap.size wr w5 := by rw [← hw5]; exact (below_alloc' (below_alloc' (Below.refl _ _) _) _).drew
        have z6 : w5.heap[wr.heap.size]? = some (.cells #[.string zn, .int .i64 pk.shard, .int .i64 pk.cpu, .int .i64 pk.mem, .slice ua1 ul1 uc1, .slice xa1 xl1 xc1, .bool pk.alone] 54 (0, 0)) := by rw [← hw5]; (show (World.alloc (World.alloc _ _) _).heap[_]? = _); rw [Below.heap_alloc _ _ _ (by simp)]; exact alloc_at _ _
        have z7 : w5.heap[wr.heap.size + 1]? = some (.cells #[.string zn, .int .i64 pk.shard, .int .i64 pk.cpu, .int .i64 pk.mem, .slice ua2 ul1 uc2, .slice xa2 xl1 xc2, .bool pk.alone] 54 (0, 0)) := by rw [← hw5]; exact alloc_second _ _ _
        clear hw5
        have a0 := cell_of_block z6 0 _ rfl
        have a1 := cell_of_block z6 1 _ rfl
        have a2 := cell_of_block z6 2 _ rfl
        have a3 := cell_of_block z6 3 _ rfl
        have a4 := cell_of_block z6 4 _ rfl
        have a6 := cell_of_block z6 6 _ rfl
        have b0 := cell_of_block z7 0 _ rfl
        have b1 := cell_of_block z7 1 _ rfl
        have b2 := cell_of_block z7 2 _ rfl
        have b3 := cell_of_block z7 3 _ rfl
        have b4 := cell_of_block z7 4 _ rfl
        have b6 := cell_of_block z7 6 _ rfl
        have Z6 := Lib.hid z6
        have Z7 := Lib.hid z7
        have HB5 := Lib.hid (below_call HB.out hb5)
        clear z6 z7 hb5
        go_wp2_with fail
        refine (rows_same w5 _ _ pk.picks (HU1.out.below HB5.out) (HU2.out.below HB5.out)).mono ?_
        rintro r w7 ⟨rfl, hb⟩
        have HB7 := Lib.hid (below_call HB5.out hb)
        have d5 := cell_of_block (block_below Z6.out hb) 5 _ rfl
        have e5 := cell_of_block (block_below Z7.out hb) 5 _ rfl
        clear hb a0 a1 a2 a3 a4 a6 b0 b1 b2 b3 b4 b6
        go_wp2_with fail
        refine (rows_same w7 _ _ pk.bears (HX1.out.below HB7.out) (HX2.out.below HB7.out)).mono ?_
        rintro r w8 ⟨rfl, hb⟩
        have HB8 := Lib.hid (below_call HB7.out hb)
        clear hb d5 e5
        go_wp2
        go_roundw
        case rel => exact ⟨k + 1, by go_num, by omega, HB8.out⟩
        case measure => simp [intOf]; omega
      · generalize hw5 : World.drew _ = w5
        have hb5 : Below wr.heap.size wr w5 := by rw [← hw5]; exact (below_alloc' (below_alloc' (Below.refl _ _) _) _).drew
        have z6 : w5.heap[wr.heap.size + 1]? = some (.cells #[.string zn, .int .i64 pk.shard, .int .i64 pk.cpu, .int .i64 pk.mem, .slice ua1 ul1 uc1, .slice xa1 xl1 xc1, .bool pk.alone] 54 (0, 0)) := by rw [← hw5]; exact alloc_second _ _ _
        have z7 : w5.heap[wr.heap.size]? = some (.cells #[.string zn, .int .i64 pk.shard, .int .i64 pk.cpu, .int .i64 pk.mem, .slice ua2 ul1 uc2, .slice xa2 xl1 xc2, .bool pk.alone] 54 (0, 0)) := by rw [← hw5]; (show (World.alloc (World.alloc _ _) _).heap[_]? = _); rw [Below.heap_alloc _ _ _ (by simp)]; exact alloc_at _ _
        clear hw5
        have a0 := cell_of_block z6 0 _ rfl
        have a1 := cell_of_block z6 1 _ rfl
        have a2 := cell_of_block z6 2 _ rfl
        have a3 := cell_of_block z6 3 _ rfl
        have a4 := cell_of_block z6 4 _ rfl
        have a6 := cell_of_block z6 6 _ rfl
        have b0 := cell_of_block z7 0 _ rfl
        have b1 := cell_of_block z7 1 _ rfl
        have b2 := cell_of_block z7 2 _ rfl
        have b3 := cell_of_block z7 3 _ rfl
        have b4 := cell_of_block z7 4 _ rfl
        have b6 := cell_of_block z7 6 _ rfl
        have Z6 := Lib.hid z6
        have Z7 := Lib.hid z7
        have HB5 := Lib.hid (below_call HB.out hb5)
        clear z6 z7 hb5
        go_wp2_with fail
        refine (rows_same w5 _ _ pk.picks (HU1.out.below HB5.out) (HU2.out.below HB5.out)).mono ?_
        rintro r w7 ⟨rfl, hb⟩
        have HB7 := Lib.hid (below_call HB5.out hb)
        have d5 := cell_of_block (block_below Z6.out hb) 5 _ rfl
        have e5 := cell_of_block (block_below Z7.out hb) 5 _ rfl
        clear hb a0 a1 a2 a3 a4 a6 b0 b1 b2 b3 b4 b6
        go_wp2_with fail
        refine (rows_same w7 _ _ pk.bears (HX1.out.below HB7.out) (HX2.out.below HB7.out)).mono ?_
        rintro r w8 ⟨rfl, hb⟩
        have HB8 := Lib.hid (below_call HB7.out hb)
        clear hb d5 e5
        go_wp2
        go_roundw
        case rel => exact ⟨k + 1, by go_num, by omega, HB8.out⟩
        case measure => simp [intOf]; omega
    · obtain rfl : k = l.length := by omega
      go_wp2
      go_ret
      exact ⟨rfl, HB.out⟩
end Go.Proofs.YtikamehjeaoilaaGreatDoor
/-! Law 15's Same of two events that are the same. -/
set_option linter.unusedVariables false
set_option linter.unusedSimpArgs false
namespace Go.Proofs.YtikamehjeaoilaaGreatDoor
open Go.RowKit

set_option maxHeartbeats 4000000 in
set_option maxRecDepth 100000 in
theorem nodes_same (w : World) (zn : ByteArray) (n2 n3 : Nat) (fl : Bool) (u1 x1 u2 x2 : Value) (ls ts : List (List UInt8)) (hu1 : Rows w u1 ls) (hx1 : Rows w x1 ts) (hu2 : Rows w u2 ls) (hx2 : Rows w x2 ts) :
    Calls Tryz.prog 27 #[.agg #[.string zn, .int .i64 n2, .int .i64 n3, u1, x1, .bool fl], .agg #[.string zn, .int .i64 n2, .int .i64 n3, u2, x2, .bool fl]] w fun e w' => e = .returned (.bool true) ∧ Below w.heap.size w w' := by
  obtain ⟨ua1, uc1, rfl, _⟩ := id hu1
  obtain ⟨ua2, uc2, rfl, _⟩ := id hu2
  obtain ⟨xa1, xc1, rfl, _⟩ := id hx1
  obtain ⟨xa2, xc2, rfl, _⟩ := id hx2
  obtain ⟨ul, hul⟩ : ∃ z, ls.length = z := ⟨_, rfl⟩
  obtain ⟨xl, hxl⟩ : ∃ z, ts.length = z := ⟨_, rfl⟩
  rw [hul] at hu1 hu2 ⊢
  rw [hxl] at hx1 hx2 ⊢
  have HU1 := Lib.hid hu1
  have HU2 := Lib.hid hu2
  have HX1 := Lib.hid hx1
  have HX2 := Lib.hid hx2
  clear hu1 hu2 hx1 hx2 hul hxl
  go_enter Tryz.func27, Tryz.ntmps27
  go_wp2_with fail
  generalize hw5 : World.alloc (World.alloc w _) _ = w5
  have hb5 : Below w.heap.size w w5 := by rw [← hw5]; exact below_alloc' (below_alloc' (Below.refl _ _) _) _
  have z6 : w5.heap[w.heap.size]? = some (.cells #[.string zn, .int .i64 n2, .int .i64 n3, .slice ua1 ul uc1, .slice xa1 xl xc1, .bool fl] 31 (0, 0)) := by rw [← hw5, Below.heap_alloc _ _ _ (by simp)]; exact alloc_at _ _
  have z7 : w5.heap[w.heap.size + 1]? = some (.cells #[.string zn, .int .i64 n2, .int .i64 n3, .slice ua2 ul uc2, .slice xa2 xl xc2, .bool fl] 31 (0, 0)) := by rw [← hw5]; exact alloc_second _ _ _
  clear hw5
  have HB5 := Lib.hid hb5
  have Z6 := Lib.hid z6
  have Z7 := Lib.hid z7
  clear hb5 z6 z7
  refine (rows_same w5 _ _ ls (HU1.out.below HB5.out) (HU2.out.below HB5.out)).mono ?_
  rintro r w7 ⟨rfl, hb⟩
  have HB7 := Lib.hid (below_call HB5.out hb)
  have d5 := cell_of_block (block_below Z6.out hb) 4 _ rfl
  have e5 := cell_of_block (block_below Z7.out hb) 4 _ rfl
  clear hb
  go_wp2_with fail
  refine (rows_same w7 _ _ ts (HX1.out.below HB7.out) (HX2.out.below HB7.out)).mono ?_
  rintro r w8 ⟨rfl, hb⟩
  have HB8 := Lib.hid (below_call HB7.out hb)
  clear hb d5 e5
  go_wp2
  go_ret
  exact ⟨rfl, HB8.out⟩
set_option maxHeartbeats 4000000 in
set_option maxRecDepth 100000 in
theorem ev_same (b1 b2 : Nat) (w : World) (v1 v2 : Value) (k : Nat) (s : EvS) (h1 : EvR b1 w v1 k s) (h2 : EvR b2 w v2 k s) (hb : EvB k s) :
    Calls Tryz.prog 10 #[v1, v2] w fun e w' => e = .returned (.bool true) ∧ Below w.heap.size w w' := by
  obtain ⟨p1, u1, x1, rfl, hp1, hu1, hx1⟩ := h1
  obtain ⟨p2, u2, x2, rfl, hp2, hu2, hx2⟩ := h2
  have hu1 := Strs.rows hu1 hb.node.2.2.2.1
  have hu2 := Strs.rows hu2 hb.node.2.2.2.1
  have hx1 := Strs.rows hx1 hb.node.2.2.2.2
  have hx2 := Strs.rows hx2 hb.node.2.2.2.2
  obtain ⟨pa1, pc1, rfl⟩ := podsT_len hp1
  obtain ⟨pa2, pc2, rfl⟩ := podsT_len hp2
  obtain ⟨ua1, uc1, rfl, _⟩ := id hu1
  obtain ⟨ua2, uc2, rfl, _⟩ := id hu2
  obtain ⟨xa1, xc1, rfl, _⟩ := id hx1
  obtain ⟨xa2, xc2, rfl, _⟩ := id hx2
  have HF := Lib.hid hb.few
  obtain ⟨a, b, i, ps, ⟨nm, n2, n3, ls, ts, fl⟩⟩ := s
  simp only at hp1 hp2 hu1 hu2 hx1 hx2 HF ⊢
  obtain ⟨zn, hzn⟩ : ∃ z, str nm = z := ⟨_, rfl⟩
  rw [hzn]
  obtain ⟨pl, hpl⟩ : ∃ z, ps.length = z := ⟨_, rfl⟩
  obtain ⟨ul, hul⟩ : ∃ z, ls.length = z := ⟨_, rfl⟩
  obtain ⟨xl, hxl⟩ : ∃ z, ts.length = z := ⟨_, rfl⟩
  rw [hpl] at hp1 hp2 HF ⊢
  rw [hul] at hu1 hu2 ⊢
  rw [hxl] at hx1 hx2 ⊢
  have HP1 := Lib.hid hp1
  have HP2 := Lib.hid hp2
  have HU1 := Lib.hid hu1
  have HU2 := Lib.hid hu2
  have HX1 := Lib.hid hx1
  have HX2 := Lib.hid hx2
  have HPL := Lib.hid hpl
  clear hp1 hp2 hu1 hu2 hx1 hx2 hpl hul hxl hb hzn
  go_enter Tryz.func10, Tryz.ntmps10
  go_wp2_with fail
  generalize hw5 : World.alloc (World.alloc w _) _ = w5
  have hb5 : Below w.heap.size w w5 := by rw [← hw5]; exact below_alloc' (below_alloc' (Below.refl _ _) _) _
  have z6 : w5.heap[w.heap.size]? = some (.cells #[.int .i64 k, .int .i64 a, .int .i64 b, .int .i64 i, .slice pa1 pl pc1, .string zn, .int .i64 n2, .int .i64 n3, .slice ua1 ul uc1, .slice xa1 xl xc1, .bool fl] 33 (0, 0)) := by rw [← hw5, Below.heap_alloc _ _ _ (by simp)]; exact alloc_at _ _
  have z7 : w5.heap[w.heap.size + 1]? = some (.cells #[.int .i64 k, .int .i64 a, .int .i64 b, .int .i64 i, .slice pa2 pl pc2, .string zn, .int .i64 n2, .int .i64 n3, .slice ua2 ul uc2, .slice xa2 xl xc2, .bool fl] 34 (0, 0)) := by rw [← hw5]; exact alloc_second _ _ _
  clear hw5
  have HB5 := Lib.hid hb5
  have Z6 := Lib.hid z6
  have Z7 := Lib.hid z7
  clear hb5 z6 z7
  refine (podsT_same b1 b2 w5 _ _ ps (HP1.out.below HB5.out) (HP2.out.below HB5.out) (by rw [HPL.out]; have := HF.out; omega)).mono ?_
  rintro r w7 ⟨rfl, hb⟩
  have HB7 := Lib.hid (below_call HB5.out hb)
  have y6 := block_below Z6.out hb
  have y7 := block_below Z7.out hb
  have d5 := cell_of_block y6 5 _ rfl
  have d6 := cell_of_block y6 6 _ rfl
  have d7 := cell_of_block y6 7 _ rfl
  have d8 := cell_of_block y6 8 _ rfl
  have d9 := cell_of_block y6 9 _ rfl
  have d10 := cell_of_block y6 10 _ rfl
  have e5 := cell_of_block y7 5 _ rfl
  have e6 := cell_of_block y7 6 _ rfl
  have e7 := cell_of_block y7 7 _ rfl
  have e8 := cell_of_block y7 8 _ rfl
  have e9 := cell_of_block y7 9 _ rfl
  have e10 := cell_of_block y7 10 _ rfl
  clear hb y6 y7
  go_wp2_with fail
  refine (nodes_same w7 _ _ _ _ _ _ _ _ ls ts (HU1.out.below HB7.out) (HX1.out.below HB7.out) (HU2.out.below HB7.out) (HX2.out.below HB7.out)).mono ?_
  rintro r w8 ⟨rfl, hb⟩
  have HB8 := Lib.hid (below_call HB7.out hb)
  clear hb d5 d6 d7 d8 d9 d10 e5 e6 e7 e8 e9 e10
  go_wp2
  go_ret
  exact ⟨rfl, HB8.out⟩
end Go.Proofs.YtikamehjeaoilaaGreatDoor
/-! The reference's Event of a line (printed by gen_ul.py). -/
set_option linter.unusedVariables false
set_option linter.unusedSimpArgs false
namespace Go.Proofs.YtikamehjeaoilaaGreatDoor
open Go.RowKit

/-- The event of a line, by its numbers. -/
def evM (s : List UInt8) : EvL := ⟨kindS s, (evS s).a, (evS s).b, (evS s).id, (evS s).pods, (evS s).node⟩
theorem evM_T {s : List UInt8} (h : evOk s = true) : evT (evM s) = s := by
  have h1 : textE (evM s).kind (evSof (evM s)) = s := (text_back s h).1
  exact (textE_T (evM s)).symm.trans h1
theorem wordsL_some {s : List UInt8} (h : ∀ w ∈ splitC 32 s, w ≠ []) : wordsL s = splitC 32 s := by
  unfold wordsL
  rw [if_neg]
  intro hm
  exact h [] hm rfl
theorem evRef (s : List UInt8) : evOf (wordsL s) = if evOk s = true then some (evM s) else none := by
  by_cases h : evOk s = true
  · rw [if_pos h]
    have g := ok_good s h
    have e1 : evL s = some (evM s) := by
      have := evL_T (e := evM s) g
      rwa [evM_T h] at this
    rw [wordsL_some (evL_full e1)]
    exact e1
  · rw [if_neg h]
    cases he : evOf (wordsL s) with
    | none => rfl
    | some e =>
      exfalso
      have hm : [] ∉ splitC 32 s := fun hm => by
        unfold wordsL at he
        rw [if_pos hm] at he
        cases he
      have e1 : evL s = some e := by
        unfold wordsL at he
        rw [if_neg hm] at he
        exact he
      obtain ⟨e2, g⟩ := evL_inv e1
      have := (ev_back g).2.1
      rw [textE_T e, ← e2] at this
      exact h this
theorem wordsL_few {s : List UInt8} (h : s.length ≤ 4294967000) : few (wordsL s) := by
  unfold wordsL
  split
  · exact ⟨by simp, fun x hx => absurd hx (List.not_mem_nil)⟩
  · exact splitC_few (by omega)
theorem rowsC_own {base : Nat} {w : World} {v : Value} {ls : List (List UInt8)} (h : w.ownsRow base 9 1 v ls.length (ls.map strV)) (hl : ls.length ≤ 4294967281) : RowsC w v ls := by
  rcases h.2 with ⟨rfl, h0⟩ | ⟨g, cap, cur, rfl, _, hg, hc, _, hsz, htk⟩
  · exact ⟨none, 0, by rw [h0], hl, by rw [h0]; exact Nat.le_refl _, fun i hi => by rw [h0] at hi; exact absurd hi (Nat.not_lt_zero _)⟩
  · refine ⟨_, cap, rfl, hl, hc, fun i hi => ⟨g, 0, rfl, ?_⟩⟩
    have e : (cur.toList.take (ls.length * 1))[i]? = (ls.map strV)[i]? := by rw [htk]
    rw [List.getElem?_take, if_pos (by omega)] at e
    refine cell_of_block hg _ _ ?_
    rw [Nat.zero_add, ← Array.getElem?_toList, e]
    simp [hi, strV]
set_option maxHeartbeats 16000000 in
set_option maxRecDepth 1000000 in
theorem revent_any (s : List UInt8) (hs : s.length ≤ 4294967000) (w : World) : Calls Tryz.prog 9 #[.string (str s)] w (EventPost (kindS s) (evOk s) (evS s) w) := by
  have HF := Lib.hid (wordsL_few hs)
  have HW := Lib.hid (rwords_any s (by omega))
  obtain ⟨z, hz⟩ : ∃ z, str s = z := ⟨_, rfl⟩
  rw [hz] at HW ⊢
  have HEV := Lib.hid (evRef s)
  obtain ⟨ok, hok⟩ : ∃ q, evOk s = q := ⟨_, rfl⟩
  rw [hok] at HEV ⊢
  clear hz hok
  obtain ⟨wl, hwl⟩ : ∃ q, wordsL s = q := ⟨_, rfl⟩
  rw [hwl] at HF HW HEV
  clear hwl
  have HS := Lib.hid hs
  clear hs
  go_enter Tryz.func9, Tryz.ntmps9
  go_wp2_with fail
  have HA : Hid ((w.alloc (.cells #[.int .i64 0, .int .i64 0, .int .i64 0, .int .i64 0, .slice none 0 0, .string ⟨#[]⟩, .int .i64 0, .int .i64 0, .slice none 0 0, .slice none 0 0, .bool false] 34)).heap[w.heap.size]? = some (.cells #[.int .i64 0, .int .i64 0, .int .i64 0, .int .i64 0, .slice none 0 0, .string ⟨#[]⟩, .int .i64 0, .int .i64 0, .slice none 0 0, .slice none 0 0, .bool false] 34 (0, 0))) := Lib.hid (alloc_at _ _)
  have HB : Hid (Below w.heap.size w (w.alloc (.cells #[.int .i64 0, .int .i64 0, .int .i64 0, .int .i64 0, .slice none 0 0, .string ⟨#[]⟩, .int .i64 0, .int .i64 0, .slice none 0 0, .slice none 0 0, .bool false] 34))) := Lib.hid (below_alloc' (Below.refl _ _) _)
  generalize World.alloc w _ = w1 at HA HB ⊢
  refine (HW.out w1).mono ?_
  rintro e w2 ⟨v, rfl, hown, hb⟩
  replace HA := Lib.hid (block_below HA.out hb)
  replace HB := Lib.hid (below_call HB.out hb)
  have hrc := rowsC_own hown (by have := HF.out.1; omega)
  have HR := Lib.hid hrc
  obtain ⟨av, lv, cv, rfl⟩ := own_slice hown
  clear hb hown hrc
  go_wp2_with fail
  refine (rread_any _ wl w2 HR.out HF.out).mono ?_
  rintro e w3 ⟨val, kd, S, rfl, hev, hsm, hb⟩
  replace HA := Lib.hid (block_below HA.out hb)
  have hsz := HB.out.size
  replace HB := Lib.hid (below_call HB.out hb)
  obtain ⟨vp, u, x, rfl, hp, hu, hx⟩ := hev
  have h3 : Ev3 w.heap.size w3 vp u x S.pods S.node.marks S.node.taints := ⟨hp.base hsz, own_base hu hsz, own_base hx hsz⟩
  have H3 := Lib.hid h3
  obtain ⟨ap, lp, cp, rfl⟩ := (show ∃ a l c, vp = .slice a l c by obtain ⟨cc, hown, _⟩ := hp; exact own_slice hown)
  obtain ⟨au, lu, cu, rfl⟩ := own_slice hu
  obtain ⟨ax, lx, cx, rfl⟩ := own_slice hx
  have hso : (evOf wl).isSome = ok := by rw [HEV.out]; cases ok <;> rfl
  rw [hso]
  have hsk : ok = true → kd = kindS s ∧ S = evS s := fun h => by
    have := hsm (evM s) (by rw [HEV.out, if_pos h])
    exact ⟨this.1.symm, this.2⟩
  have HSK := Lib.hid hsk
  clear hb hp hu hx h3 hso hsm hsk hsz
  obtain ⟨zn, hzn⟩ : ∃ q, str S.node.name = q := ⟨_, rfl⟩
  obtain ⟨n1, hn1⟩ : ∃ q, S.a = q := ⟨_, rfl⟩
  obtain ⟨n2, hn2⟩ : ∃ q, S.b = q := ⟨_, rfl⟩
  obtain ⟨n3, hn3⟩ : ∃ q, S.id = q := ⟨_, rfl⟩
  obtain ⟨n4, hn4⟩ : ∃ q, S.node.cpu = q := ⟨_, rfl⟩
  obtain ⟨n5, hn5⟩ : ∃ q, S.node.mem = q := ⟨_, rfl⟩
  obtain ⟨fl, hfl⟩ : ∃ q, S.node.closed = q := ⟨_, rfl⟩
  rw [hzn, hn1, hn2, hn3, hn4, hn5, hfl]
  have HX1 : Hid (str S.node.name = zn ∧ S.a = n1 ∧ S.b = n2 ∧ S.id = n3 ∧ S.node.cpu = n4 ∧ S.node.mem = n5 ∧ S.node.closed = fl) := Lib.hid ⟨hzn, hn1, hn2, hn3, hn4, hn5, hfl⟩
  clear hzn hn1 hn2 hn3 hn4 hn5 hfl
  cases ok
  · go_upto_region 3 with fail
    have HQ : Hid ((w3.alloc (.cells #[.int .i64 kd, .int .i64 n1, .int .i64 n2, .int .i64 n3, .slice ap lp cp, .string zn, .int .i64 n4, .int .i64 n5, .slice au lu cu, .slice ax lx cx, .bool fl] 34)).heap[w3.heap.size]? = some (.cells #[.int .i64 kd, .int .i64 n1, .int .i64 n2, .int .i64 n3, .slice ap lp cp, .string zn, .int .i64 n4, .int .i64 n5, .slice au lu cu, .slice ax lx cx, .bool fl] 34 (0, 0))) := Lib.hid (alloc_at _ _)
    replace HA := Lib.hid (block_below HA.out (below_alloc' (Below.refl _ _) ((.cells #[.int .i64 kd, .int .i64 n1, .int .i64 n2, .int .i64 n3, .slice ap lp cp, .string zn, .int .i64 n4, .int .i64 n5, .slice au lu cu, .slice ax lx cx, .bool fl] 34))))
    replace H3 := Lib.hid (H3.out.below (below_alloc' (Below.refl _ _) (.cells #[.int .i64 kd, .int .i64 n1, .int .i64 n2, .int .i64 n3, .slice ap lp cp, .string zn, .int .i64 n4, .int .i64 n5, .slice au lu cu, .slice ax lx cx, .bool fl] 34)))
    replace HB := Lib.hid (below_alloc' HB.out (.cells #[.int .i64 kd, .int .i64 n1, .int .i64 n2, .int .i64 n3, .slice ap lp cp, .string zn, .int .i64 n4, .int .i64 n5, .slice au lu cu, .slice ax lx cx, .bool fl] 34))
    generalize World.alloc w3 _ = w4 at HA HQ HB H3 ⊢
    have q0 := cell_of_block HQ.out 0 _ rfl
    have q1 := cell_of_block HQ.out 1 _ rfl
    have q2 := cell_of_block HQ.out 2 _ rfl
    have q3 := cell_of_block HQ.out 3 _ rfl
    have q4 := cell_of_block HQ.out 4 _ rfl
    have q5 := cell_of_block HQ.out 5 _ rfl
    have q6 := cell_of_block HQ.out 6 _ rfl
    have q7 := cell_of_block HQ.out 7 _ rfl
    have q8 := cell_of_block HQ.out 8 _ rfl
    have q9 := cell_of_block HQ.out 9 _ rfl
    have q10 := cell_of_block HQ.out 10 _ rfl
    have fq := free_of_block HQ.out
    have z0 := cell_of_block HA.out 0 _ rfl
    have z1 := cell_of_block HA.out 1 _ rfl
    have z2 := cell_of_block HA.out 2 _ rfl
    have z3 := cell_of_block HA.out 3 _ rfl
    have z4 := cell_of_block HA.out 4 _ rfl
    have z5 := cell_of_block HA.out 5 _ rfl
    have z6 := cell_of_block HA.out 6 _ rfl
    have z7 := cell_of_block HA.out 7 _ rfl
    have z8 := cell_of_block HA.out 8 _ rfl
    have z9 := cell_of_block HA.out 9 _ rfl
    have z10 := cell_of_block HA.out 10 _ rfl
    have fz := free_of_block HA.out
    go_wp2
    have fb := sets11 (.int .i64 0) (.int .i64 0) (.int .i64 0) (.int .i64 0) (.slice none 0 0) (.string ⟨#[]⟩) (.int .i64 0) (.int .i64 0) (.slice none 0 0) (.slice none 0 0) (.bool false) HA.out
    have gb := below_sets (b := w.heap.size) (Nat.le_refl _) [.int .i64 0, .int .i64 0, .int .i64 0, .int .i64 0, .slice none 0 0, .string ⟨#[]⟩, .int .i64 0, .int .i64 0, .slice none 0 0, .slice none 0 0, .bool false] 0 w4 HB.out
    have g3 := H3.out.gbx HA.out (by decide) (by decide) (Gb.sets w.heap.size [.int .i64 0, .int .i64 0, .int .i64 0, .int .i64 0, .slice none 0 0, .string ⟨#[]⟩, .int .i64 0, .int .i64 0, .slice none 0 0, .slice none 0 0, .bool false] 0 w4)
    obtain ⟨W2, hW2⟩ : ∃ W2, w4.setCells w.heap.size 0 [.int .i64 0, .int .i64 0, .int .i64 0, .int .i64 0, .slice none 0 0, .string ⟨#[]⟩, .int .i64 0, .int .i64 0, .slice none 0 0, .slice none 0 0, .bool false] = W2 := ⟨_, rfl⟩
    rw [hW2] at fb gb g3
    refine bp_at hW2 ?_
    clear hW2
    have k0 := cell_of_block fb 0 _ rfl
    have k1 := cell_of_block fb 1 _ rfl
    have k2 := cell_of_block fb 2 _ rfl
    have k3 := cell_of_block fb 3 _ rfl
    have k4 := cell_of_block fb 4 _ rfl
    have k5 := cell_of_block fb 5 _ rfl
    have k6 := cell_of_block fb 6 _ rfl
    have k7 := cell_of_block fb 7 _ rfl
    have k8 := cell_of_block fb 8 _ rfl
    have k9 := cell_of_block fb 9 _ rfl
    have k10 := cell_of_block fb 10 _ rfl
    exact bodyPost_ret (v := .tuple #[.agg #[.int .i64 0, .int .i64 0, .int .i64 0, .int .i64 0, .slice none 0 0, .string ⟨#[]⟩, .int .i64 0, .int .i64 0, .slice none 0 0, .slice none 0 0, .bool false], .int .i64 8]) (by simp [results, Tryz.results9, go_sem, k0, k1, k2, k3, k4, k5, k6, k7, k8, k9, k10]) rfl ⟨_, rfl, (fun h => by cases h), fun _ => rfl, gb⟩
  · go_upto_region 4 with fail
    have HQ : Hid ((w3.alloc (.cells #[.int .i64 kd, .int .i64 n1, .int .i64 n2, .int .i64 n3, .slice ap lp cp, .string zn, .int .i64 n4, .int .i64 n5, .slice au lu cu, .slice ax lx cx, .bool fl] 34)).heap[w3.heap.size]? = some (.cells #[.int .i64 kd, .int .i64 n1, .int .i64 n2, .int .i64 n3, .slice ap lp cp, .string zn, .int .i64 n4, .int .i64 n5, .slice au lu cu, .slice ax lx cx, .bool fl] 34 (0, 0))) := Lib.hid (alloc_at _ _)
    replace HA := Lib.hid (block_below HA.out (below_alloc' (Below.refl _ _) ((.cells #[.int .i64 kd, .int .i64 n1, .int .i64 n2, .int .i64 n3, .slice ap lp cp, .string zn, .int .i64 n4, .int .i64 n5, .slice au lu cu, .slice ax lx cx, .bool fl] 34))))
    replace H3 := Lib.hid (H3.out.below (below_alloc' (Below.refl _ _) (.cells #[.int .i64 kd, .int .i64 n1, .int .i64 n2, .int .i64 n3, .slice ap lp cp, .string zn, .int .i64 n4, .int .i64 n5, .slice au lu cu, .slice ax lx cx, .bool fl] 34)))
    replace HB := Lib.hid (below_alloc' HB.out (.cells #[.int .i64 kd, .int .i64 n1, .int .i64 n2, .int .i64 n3, .slice ap lp cp, .string zn, .int .i64 n4, .int .i64 n5, .slice au lu cu, .slice ax lx cx, .bool fl] 34))
    generalize World.alloc w3 _ = w4 at HA HQ HB H3 ⊢
    have q0 := cell_of_block HQ.out 0 _ rfl
    have q1 := cell_of_block HQ.out 1 _ rfl
    have q2 := cell_of_block HQ.out 2 _ rfl
    have q3 := cell_of_block HQ.out 3 _ rfl
    have q4 := cell_of_block HQ.out 4 _ rfl
    have q5 := cell_of_block HQ.out 5 _ rfl
    have q6 := cell_of_block HQ.out 6 _ rfl
    have q7 := cell_of_block HQ.out 7 _ rfl
    have q8 := cell_of_block HQ.out 8 _ rfl
    have q9 := cell_of_block HQ.out 9 _ rfl
    have q10 := cell_of_block HQ.out 10 _ rfl
    have fq := free_of_block HQ.out
    have z0 := cell_of_block HA.out 0 _ rfl
    have z1 := cell_of_block HA.out 1 _ rfl
    have z2 := cell_of_block HA.out 2 _ rfl
    have z3 := cell_of_block HA.out 3 _ rfl
    have z4 := cell_of_block HA.out 4 _ rfl
    have z5 := cell_of_block HA.out 5 _ rfl
    have z6 := cell_of_block HA.out 6 _ rfl
    have z7 := cell_of_block HA.out 7 _ rfl
    have z8 := cell_of_block HA.out 8 _ rfl
    have z9 := cell_of_block HA.out 9 _ rfl
    have z10 := cell_of_block HA.out 10 _ rfl
    have fz := free_of_block HA.out
    go_wp2
    have fb := sets11 (.int .i64 kd) (.int .i64 n1) (.int .i64 n2) (.int .i64 n3) (.slice ap lp cp) (.string zn) (.int .i64 n4) (.int .i64 n5) (.slice au lu cu) (.slice ax lx cx) (.bool fl) HA.out
    have gb := below_sets (b := w.heap.size) (Nat.le_refl _) [.int .i64 kd, .int .i64 n1, .int .i64 n2, .int .i64 n3, .slice ap lp cp, .string zn, .int .i64 n4, .int .i64 n5, .slice au lu cu, .slice ax lx cx, .bool fl] 0 w4 HB.out
    have g3 := H3.out.gbx HA.out (by decide) (by decide) (Gb.sets w.heap.size [.int .i64 kd, .int .i64 n1, .int .i64 n2, .int .i64 n3, .slice ap lp cp, .string zn, .int .i64 n4, .int .i64 n5, .slice au lu cu, .slice ax lx cx, .bool fl] 0 w4)
    obtain ⟨W2, hW2⟩ : ∃ W2, w4.setCells w.heap.size 0 [.int .i64 kd, .int .i64 n1, .int .i64 n2, .int .i64 n3, .slice ap lp cp, .string zn, .int .i64 n4, .int .i64 n5, .slice au lu cu, .slice ax lx cx, .bool fl] = W2 := ⟨_, rfl⟩
    rw [hW2] at fb gb g3
    refine bp_at hW2 ?_
    clear hW2
    have k0 := cell_of_block fb 0 _ rfl
    have k1 := cell_of_block fb 1 _ rfl
    have k2 := cell_of_block fb 2 _ rfl
    have k3 := cell_of_block fb 3 _ rfl
    have k4 := cell_of_block fb 4 _ rfl
    have k5 := cell_of_block fb 5 _ rfl
    have k6 := cell_of_block fb 6 _ rfl
    have k7 := cell_of_block fb 7 _ rfl
    have k8 := cell_of_block fb 8 _ rfl
    have k9 := cell_of_block fb 9 _ rfl
    have k10 := cell_of_block fb 10 _ rfl
    exact bodyPost_ret (v := .tuple #[.agg #[.int .i64 kd, .int .i64 n1, .int .i64 n2, .int .i64 n3, .slice ap lp cp, .string zn, .int .i64 n4, .int .i64 n5, .slice au lu cu, .slice ax lx cx, .bool fl], .int .i64 0]) (by simp [results, Tryz.results9, go_sem, k0, k1, k2, k3, k4, k5, k6, k7, k8, k9, k10]) rfl ⟨_, rfl, (fun _ => by obtain ⟨e1, e2⟩ := HSK.out trivial; rw [← e1, ← e2]; obtain ⟨x1, x2, x3, x4, x5, x6, x7⟩ := HX1.out; exact ⟨_, _, _, by rw [x1, x2, x3, x4, x5, x6, x7], g3.1, g3.2.1, g3.2.2⟩), (fun h => by cases h), gb⟩
end Go.Proofs.YtikamehjeaoilaaGreatDoor
/-! PlayReads: the law's walk. -/
set_option linter.unusedVariables false
set_option linter.unusedSimpArgs false
namespace Go.Proofs.YtikamehjeaoilaaGreatDoor
open Go.RowKit

set_option maxHeartbeats 16000000 in
set_option maxRecDepth 1000000 in
theorem playReads_any (kd a b : Int) (v : Value) (ps : List Int) (n at_ : Int) (y : Nat) (hy : y < 256) (cut : Int) (m r : List UInt8) (hm6 : m.length ≤ 60) (hr3 : r.length ≤ 300) (w : World) (hn : Nums w v ps) (ht : Tabs w) : Calls Tryz.prog 3 #[.int .i64 kd, .int .i64 a, .int .i64 b, v, .int .i64 n, .int .i64 at_, .int .u8 y, .int .i64 cut, .string (str m), .string (str r)] w fun e w' => e = .returned (.bool true) ∧ Below w.heap.size w w' := by
  have HT := Lib.hid ht
  have HN := Lib.hid hn
  obtain ⟨pa, pc, rfl, hnl, _⟩ := hn
  clear ht
  have HQB := Lib.hid (evQ_B kd a b ps n)
  have HQG := Lib.hid (evQ_good kd a b ps n)
  have HMK := Lib.hid (fun w h => make_any kd a b (.slice pa ps.length pc) ps n w h)
  obtain ⟨k, hk⟩ : ∃ k, (evQ kd a b ps n).kind = k := ⟨_, rfl⟩
  obtain ⟨S, hS⟩ : ∃ S, evSof (evQ kd a b ps n) = S := ⟨_, rfl⟩
  have hk1 : 1 ≤ k := by rw [← hk]; exact HQG.out.1
  have hk2 : k ≤ 11 := by rw [← hk]; exact HQG.out.2.1
  rw [hk, hS] at HQB
  simp only [hk, hS] at HMK
  have HK1 := Lib.hid hk1
  have HK2 := Lib.hid hk2
  have htn := textE_ne k hk1 hk2 S
  clear hk hS HQG hk1 hk2
  obtain ⟨zn, hzn⟩ : ∃ z, str S.node.name = z := ⟨_, rfl⟩
  obtain ⟨fl, hfl⟩ : ∃ z, S.node.closed = z := ⟨_, rfl⟩
  have HZN := Lib.hid hzn
  have HFL := Lib.hid hfl
  obtain ⟨t, htx⟩ : ∃ t, textE k S = t := ⟨_, rfl⟩
  rw [htx] at HQB htn
  have HTX := Lib.hid htx
  obtain ⟨zt, hzt⟩ : ∃ z, str t = z := ⟨_, rfl⟩
  have HZT := Lib.hid hzt
  clear hzn hfl htx
  obtain ⟨tl, htl⟩ : ∃ z, t.length = z := ⟨_, rfl⟩
  rw [htl] at htn
  have hztl : zt.size = tl := by rw [← hzt, ← htl]; rfl
  have HTL := Lib.hid htl
  have htl4 : tl ≤ 4000 := by rw [← htl]; exact HQB.out.2
  clear htl
  obtain ⟨ix, hix⟩ : ∃ ix : Nat, at_ % (tl : Int) = ix := ⟨(at_ % (tl : Int)).toNat, by have := Int.emod_nonneg at_ (show (tl : Int) ≠ 0 by omega); omega⟩
  have hixl : ix < tl := by have := Int.emod_lt_of_pos at_ (show (0 : Int) < tl by omega); omega
  obtain ⟨t1, ht1⟩ : ∃ t1, t.set ix (t.getD ix 0 + UInt8.ofNat y) = t1 := ⟨_, rfl⟩
  have HT1 := Lib.hid ht1
  obtain ⟨zt1, hzt1⟩ : ∃ z, str t1 = z := ⟨_, rfl⟩
  have HZT1 := Lib.hid hzt1
  have ht1l : t1.length ≤ 4000 := by rw [← ht1, List.length_set, HTL.out]; exact htl4
  have HT1L := Lib.hid ht1l
  obtain ⟨b0, hb0⟩ : ∃ b0 : Int, ((t.getD ix 0).toNat : Int) = b0 := ⟨_, rfl⟩
  obtain ⟨b1, hb1⟩ : ∃ b1 : Int, IntKind.u8.wrap (b0 + y) = b1 := ⟨_, rfl⟩
  have HB01 : Hid (b1 = ((t.getD ix 0 + UInt8.ofNat y).toNat : Int)) := Lib.hid (by rw [add_u8, hb0, hb1])
  have HB0 := Lib.hid hb0
  have hzt1' := hzt1
  clear ht1 ht1l hb0
  obtain ⟨kx, hkx⟩ : ∃ kx : Nat, cut % ((tl : Int) + 1) = kx := ⟨(cut % ((tl : Int) + 1)).toNat, by have := Int.emod_nonneg cut (show (tl : Int) + 1 ≠ 0 by omega); omega⟩
  have hkxl : kx ≤ tl := by have := Int.emod_lt_of_pos cut (show (0 : Int) < (tl : Int) + 1 by omega); omega
  obtain ⟨ls, hls⟩ : ∃ ls : List (List UInt8), [t1, t.take kx, t.take kx ++ m ++ t.drop kx, r, t ++ [32] ++ r, [115, 117, 98, 109, 105, 116, 32, 49, 32] ++ r, [112, 117, 116, 32, 49, 32] ++ r, [99, 114, 97, 115, 104, 32, 49, 32] ++ r, []] = ls := ⟨_, rfl⟩
  have hlen9 : ls.length = 9 := by rw [← hls]; rfl
  have hlfew : ∀ x ∈ ls, x.length ≤ 4400 := by
    have ht1' := HT1L.out
    have htl' := HTL.out
    rw [← hls]
    intro x hx
    simp only [List.mem_cons, List.not_mem_nil, or_false] at hx
    rcases hx with rfl | rfl | rfl | rfl | rfl | rfl | rfl | rfl | rfl <;> (try simp only [List.length_append, List.length_take, List.length_drop, List.length_cons, List.length_nil]) <;> omega
  obtain ⟨zm, hzm⟩ : ∃ z, str m = z := ⟨_, rfl⟩
  obtain ⟨zr, hzr⟩ : ∃ z, str r = z := ⟨_, rfl⟩
  have hzml : zm.size = m.length := by rw [← hzm, str_size]
  have hzrl : zr.size = r.length := by rw [← hzr, str_size]
  have hcells : [Value.string zt1, .string (zt.extract 0 kx), .string (zt.extract 0 kx ++ zm ++ zt.extract kx tl), .string zr, .string (zt ++ (⟨#[32]⟩ : ByteArray) ++ zr), .string ((⟨#[115, 117, 98, 109, 105, 116, 32, 49, 32]⟩ : ByteArray) ++ zr), .string ((⟨#[112, 117, 116, 32, 49, 32]⟩ : ByteArray) ++ zr), .string ((⟨#[99, 114, 97, 115, 104, 32, 49, 32]⟩ : ByteArray) ++ zr), .string (⟨#[]⟩ : ByteArray)] = ls.map strV := by
    rw [← hls, ← hztl, ← HZT.out, ← hzt1', ← hzm, ← hzr, str_take, str_drop]
    simp only [List.map_cons, List.map_nil, strV, ← str_append]
    rfl
  rw [hzm, hzr]
  have b60 : ((m.length : Int) > 60) = False := by simp; omega
  have HCELLS := Lib.hid hcells
  have HLS := Lib.hid (And.intro hlen9 hlfew)
  clear hls hlen9 hlfew hzm hzr hcells
  obtain ⟨mm, hmm⟩ : ∃ q, m.length = q := ⟨_, rfl⟩
  obtain ⟨rr, hrr⟩ : ∃ q, r.length = q := ⟨_, rfl⟩
  rw [hmm] at hzml hm6
  rw [hrr] at hzrl hr3
  clear b60
  have m60 : decide ((mm : Int) > 60) = false := decide_eq_false (by omega)
  have r300 : decide ((rr : Int) > 300) = false := decide_eq_false (by omega)
  clear hmm hrr
  clear hzt hzt1 hzt1'
  go_enter Tryz.func3, Tryz.ntmps3
  go_wp2_with fail
  refine (known_any w HT.out).mono ?_
  rintro e w1 ⟨rfl, hb1⟩
  have HB1 := Lib.hid hb1
  clear hb1
  go_wp2_with fail
  refine (HMK.out w1 (HN.out.below HB1.out)).mono ?_
  rintro e w2 ⟨ev1, rfl, hR1, hb2⟩
  obtain ⟨vp1, u1, x1, e1, hp1, hu1, hx1⟩ := id hR1
  obtain ⟨cp1, hcp1, -⟩ := id hp1
  obtain ⟨avp1, lvp1, cvp1, rfl⟩ := own_slice hcp1
  obtain ⟨au1, lu1, cu1, rfl⟩ := own_slice hu1
  obtain ⟨ax1, lx1, cx1, rfl⟩ := own_slice hx1
  rw [HZN.out, HFL.out] at e1
  subst e1
  clear hp1 hu1 hx1 hcp1
  have HB2 := Lib.hid (below_call HB1.out hb2)
  clear hb2
  have HR2 := Lib.hid hR1
  clear hR1
  go_wp2_with fail
  have hb4 : Below w2.heap.size w2 ((w2.alloc (.cells #[.int .i64 k, .int .i64 S.a, .int .i64 S.b, .int .i64 S.id, .slice avp1 lvp1 cvp1, .string zn, .int .i64 S.node.cpu, .int .i64 S.node.mem, .slice au1 lu1 cu1, .slice ax1 lx1 cx1, .bool fl] 33)).alloc (.cells #[.int .i64 k, .int .i64 S.a, .int .i64 S.b, .int .i64 S.id, .slice avp1 lvp1 cvp1, .string zn, .int .i64 S.node.cpu, .int .i64 S.node.mem, .slice au1 lu1 cu1, .slice ax1 lx1 cx1, .bool fl] 34)) := below_alloc' (below_alloc' (Below.refl _ _) _) _
  generalize World.alloc (World.alloc w2 _) _ = w4 at hb4 ⊢
  have HB4 := Lib.hid (below_call HB2.out hb4)
  have HR4 := Lib.hid (HR2.out.below hb4)
  clear hb4
  refine (rtext_any k HK1.out HK2.out S _ _ w4 HR4.out HQB.out.1).mono ?_
  rintro e w5 ⟨rfl, hb5⟩
  rw [HTX.out, HZT.out]
  have HB5 := Lib.hid (below_call HB4.out hb5)
  clear hb5
  have hcv : (convert 9 38 (.string zt)).run Tryz.prog w5 = .ok (.slice (some ⟨w5.heap.size, 0, none⟩) zt.size (grownCap w5 zt.size 0 5)) (Lib.bytesWorld w5 5 zt) :=
    Lib.run_convert_string_bytes w5 _ _ _ zt Tryz.underlying9 Tryz.underlying38 Tryz.underlying5
  obtain ⟨cp, hcp⟩ : ∃ cp, grownCap w5 zt.size 0 5 = cp := ⟨_, rfl⟩
  obtain ⟨w6, hw6⟩ : ∃ w6, Lib.bytesWorld w5 5 zt = w6 := ⟨_, rfl⟩
  have hby : BytesAt 5 w6 w5.heap.size t := by rw [← hw6, ← HZT.out]; exact bytes_new _ _ _
  have hb6 : Below w5.heap.size w5 w6 := by rw [← hw6]; exact bytes_below _ _ _
  rw [hcp, hw6, hztl] at hcv
  have htnz : ¬ (tl : Int) = 0 := by omega
  have c0 := hby.cell (i := ix) (by rw [HTL.out]; exact hixl)
  rw [HB0.out] at c0
  have fr := hby.free (i := ix) (by rw [HTL.out]; exact hixl)
  have HBY := Lib.hid hby
  have HB6 := Lib.hid (below_call HB5.out hb6)
  clear hby hb6 hw6 hcp
  go_wp2_with fail
  refine (within15_any at_ tl (by omega) (by omega) w6).mono ?_
  rintro e w7 ⟨rfl, hw7⟩
  subst hw7
  rw [hix]
  have hixi : (ix : Int) < tl := by omega
  have hcb : ∀ w7, BytesAt 5 w7 w5.heap.size t1 → (convert 38 9 (.slice (some ⟨w5.heap.size, 0, none⟩) tl cp)).run Tryz.prog w7 = .ok (.string zt1) w7 := fun w7 h => by
    rw [← HZT1.out]
    exact h.conv Tryz.underlying38 Tryz.underlying5 Tryz.underlying9 (by rw [← HT1.out, List.length_set, HTL.out]) cp
  have HCB := Lib.hid hcb
  clear hcb
  have hcv2 : (convert 38 9 (.slice (some ⟨w5.heap.size, 0, none⟩) tl cp)).run Tryz.prog (w6.setCell ⟨w5.heap.size, ix, none⟩ (.int .u8 b1)) = .ok (.string zt1) (w6.setCell ⟨w5.heap.size, ix, none⟩ (.int .u8 b1)) := by
    refine HCB.out _ ?_
    rw [← HT1.out, HB01.out]
    exact HBY.out.set (by rw [HTL.out]; exact hixl) _
  have hby7 : BytesAt 5 (w6.setCell ⟨w5.heap.size, ix, none⟩ (.int .u8 b1)) w5.heap.size t1 := by
    rw [← HT1.out, HB01.out]
    exact HBY.out.set (by rw [HTL.out]; exact hixl) _
  have HBY7 := Lib.hid hby7
  have HB7 := Lib.hid (HB6.out.setCell (p := ⟨w5.heap.size, ix, none⟩) HB5.out.size (.int .u8 b1))
  clear hby7
  go_wp2_with fail
  generalize World.setCell w6 _ _ = w7 at HBY7 HB7 hcv2 ⊢
  clear HBY c0 fr
  refine (within15_any cut (tl + 1) (by omega) (by omega) w7).mono ?_
  rintro e w7' ⟨rfl, hw7⟩
  subst hw7
  rw [hkx]
  have hkz : (kx : Int) ≤ (zt.size : Int) := by rw [hztl]; omega
  have hkz' : kx ≤ zt.size := by rw [hztl]; exact hkxl
  have HBYd := Lib.hid (HBY7.out.below (Below.refl w7.heap.size w7).drew)
  clear hcv2
  go_upto_region 10 with fail
  refine' Par.wp_region_pars (fun w w' => Below w.heap.size w w') 26 (by kernel_rfl) (by kernel_rfl) (by kernel_rfl) (by kernel_rfl) (by kernel_rfl) (by kernel_rfl)
    (fun w => Below.refl _ w) (fun h k => below_call h k) (fun vals => ?_)
  rotate_left
  simp only [List.take_succ_cons, List.take_zero, List.drop_succ_cons, List.drop_zero]
  (apply Par.par_x rfl; (focus (intro w6 hR hD K hK; replace hK := Lib.hid hK; skip; clear hR hD; go_simp; exact hK.out _ (Below.refl _ _))); simp only [Act.put, List.setIfInBounds_toArray, List.set_cons_zero, List.set_cons_succ, Nat.reduceAdd, List.cons_append, List.nil_append])
  (apply Par.par_x rfl; (focus (intro w6 hR hD K hK; replace hK := Lib.hid hK; have hcv2 := HCB.out w6 (HBYd.out.below hR); clear hR hD; go_simp; exact hK.out _ (Below.refl _ _))); simp only [Act.put, List.setIfInBounds_toArray, List.set_cons_zero, List.set_cons_succ, Nat.reduceAdd, List.cons_append, List.nil_append])
  iterate 7 (apply Par.par_x rfl; (focus (intro w6 hR hD K hK; replace hK := Lib.hid hK; skip; clear hR hD; go_simp; exact hK.out _ (Below.refl _ _))); simp only [Act.put, List.setIfInBounds_toArray, List.set_cons_zero, List.set_cons_succ, Nat.reduceAdd, List.cons_append, List.nil_append])
  (apply Par.par_x rfl; (focus (intro w6 hR hD K hK; replace hK := Lib.hid hK; clear hR hD; go_simp; rw [if_neg (by omega)]; exact hK.out _ (Below.refl _ _))); simp only [Act.put, List.setIfInBounds_toArray, List.set_cons_zero, List.set_cons_succ, Nat.reduceAdd, List.cons_append, List.nil_append])
  iterate 3 (apply Par.par_x rfl; (focus (intro w6 hR hD K hK; replace hK := Lib.hid hK; skip; clear hR hD; go_simp; exact hK.out _ (Below.refl _ _))); simp only [Act.put, List.setIfInBounds_toArray, List.set_cons_zero, List.set_cons_succ, Nat.reduceAdd, List.cons_append, List.nil_append])
  (apply Par.par_x rfl; (focus (intro w6 hR hD K hK; replace hK := Lib.hid hK; clear hR hD; go_simp; rw [if_neg (by omega)]; exact hK.out _ (Below.refl _ _))); simp only [Act.put, List.setIfInBounds_toArray, List.set_cons_zero, List.set_cons_succ, Nat.reduceAdd, List.cons_append, List.nil_append])
  iterate 2 (apply Par.par_x rfl; (focus (intro w6 hR hD K hK; replace hK := Lib.hid hK; skip; clear hR hD; go_simp; exact hK.out _ (Below.refl _ _))); simp only [Act.put, List.setIfInBounds_toArray, List.set_cons_zero, List.set_cons_succ, Nat.reduceAdd, List.cons_append, List.nil_append])
  (apply Par.par_x rfl; (focus (intro w6 hR hD K hK; replace hK := Lib.hid hK; clear hR hD; go_simp; rw [if_neg (by omega)]; exact hK.out _ (Below.refl _ _))); simp only [Act.put, List.setIfInBounds_toArray, List.set_cons_zero, List.set_cons_succ, Nat.reduceAdd, List.cons_append, List.nil_append])
  (apply Par.par_x rfl; (focus (intro w6 hR hD K hK; replace hK := Lib.hid hK; skip; clear hR hD; go_simp; exact hK.out _ (Below.refl _ _))); simp only [Act.put, List.setIfInBounds_toArray, List.set_cons_zero, List.set_cons_succ, Nat.reduceAdd, List.cons_append, List.nil_append])
  (apply Par.par_x rfl; (focus (intro w6 hR hD K hK; replace hK := Lib.hid hK; clear hR hD; go_simp; rw [if_neg (by omega)]; exact hK.out _ (Below.refl _ _))); simp only [Act.put, List.setIfInBounds_toArray, List.set_cons_zero, List.set_cons_succ, Nat.reduceAdd, List.cons_append, List.nil_append])
  (apply Par.par_x rfl; (focus (intro w6 hR hD K hK; replace hK := Lib.hid hK; skip; clear hR hD; go_simp; exact hK.out _ (Below.refl _ _))); simp only [Act.put, List.setIfInBounds_toArray, List.set_cons_zero, List.set_cons_succ, Nat.reduceAdd, List.cons_append, List.nil_append])
  (apply Par.par_x rfl; (focus (intro w6 hR hD K hK; replace hK := Lib.hid hK; clear hR hD; go_simp; rw [if_neg (by omega)]; exact hK.out _ (Below.refl _ _))); simp only [Act.put, List.setIfInBounds_toArray, List.set_cons_zero, List.set_cons_succ, Nat.reduceAdd, List.cons_append, List.nil_append])
  (apply Par.par_x rfl; (focus (intro w6 hR hD K hK; replace hK := Lib.hid hK; skip; clear hR hD; go_simp; exact hK.out _ (Below.refl _ _))); simp only [Act.put, List.setIfInBounds_toArray, List.set_cons_zero, List.set_cons_succ, Nat.reduceAdd, List.cons_append, List.nil_append])
  (apply Par.par_x rfl; (focus (intro w6 hR hD K hK; replace hK := Lib.hid hK; clear hR hD; go_simp; rw [if_neg (by omega)]; exact hK.out _ (Below.refl _ _))); simp only [Act.put, List.setIfInBounds_toArray, List.set_cons_zero, List.set_cons_succ, Nat.reduceAdd, List.cons_append, List.nil_append])
  (apply Par.par_x rfl; (focus (intro w6 hR hD K hK; replace hK := Lib.hid hK; skip; clear hR hD; go_simp; exact hK.out _ (Below.refl _ _))); simp only [Act.put, List.setIfInBounds_toArray, List.set_cons_zero, List.set_cons_succ, Nat.reduceAdd, List.cons_append, List.nil_append])
  (apply Par.par_x rfl; (focus (intro w6 hR hD K hK; replace hK := Lib.hid hK; clear hR hD; go_simp; rw [if_neg (by omega)]; exact hK.out _ (Below.refl _ _))); simp only [Act.put, List.setIfInBounds_toArray, List.set_cons_zero, List.set_cons_succ, Nat.reduceAdd, List.cons_append, List.nil_append])
  (apply Par.par_r (fun v w' => ∃ g, v = .slice (some ⟨g, 0, none⟩) 9 9 ∧ w'.heap[g]? = some (.cells #[.string zt1, .string (zt.extract 0 kx), .string (zt.extract 0 kx ++ zm ++ zt.extract kx tl), .string zr, .string (zt ++ (⟨#[32]⟩ : ByteArray) ++ zr), .string ((⟨#[115, 117, 98, 109, 105, 116, 32, 49, 32]⟩ : ByteArray) ++ zr), .string ((⟨#[112, 117, 116, 32, 49, 32]⟩ : ByteArray) ++ zr), .string ((⟨#[99, 114, 97, 115, 104, 32, 49, 32]⟩ : ByteArray) ++ zr), .string (⟨#[]⟩ : ByteArray)] 9 (0, 0))) rfl (row_keep _ _ _); (focus (intro w6 hR hD K hK; replace hK := Lib.hid hK; clear hR hD; go_simp; exact hK.out _ _ (below_alloc' (Below.refl _ _) _) ⟨_, rfl, alloc_at _ _⟩)); simp only [Act.put, List.setIfInBounds_toArray, List.set_cons_zero, List.set_cons_succ, Nat.reduceAdd, List.cons_append, List.nil_append])
  refine Par.par_end fun w6 hR hp => ?_
  obtain ⟨gs, egs, hgs⟩ : ∃ g, vals 25 = .slice (some ⟨g, 0, none⟩) 9 9 ∧ w6.heap[g]? = some (.cells #[.string zt1, .string (zt.extract 0 kx), .string (zt.extract 0 kx ++ zm ++ zt.extract kx tl), .string zr, .string (zt ++ (⟨#[32]⟩ : ByteArray) ++ zr), .string ((⟨#[115, 117, 98, 109, 105, 116, 32, 49, 32]⟩ : ByteArray) ++ zr), .string ((⟨#[112, 117, 116, 32, 49, 32]⟩ : ByteArray) ++ zr), .string ((⟨#[99, 114, 97, 115, 104, 32, 49, 32]⟩ : ByteArray) ++ zr), .string (⟨#[]⟩ : ByteArray)] 9 (0, 0)) := hp 25 (by simp)
  have hgs' : w6.heap[gs]? = some (.cells (ls.map strV).toArray 9 (0, 0)) := by rw [hgs, ← HCELLS.out]
  simp only [egs]
  clear hp egs hgs
  have HGS := Lib.hid hgs'
  have HB8 := Lib.hid (below_call HB7.out.drew hR)
  clear hgs' hR HBYd hkz hkz'
  go_wp2_with fail
  go_loopw [27] (fun i wr => ∃ q : Nat, i = .int .i64 q ∧ q ≤ 9 ∧ Below w.heap.size w wr ∧ Below w6.heap.size w6 wr) (fun i _ => 9 - (intOf i).toNat)
  case atStart => exact ⟨0, rfl, by omega, HB8.out, Below.refl _ _⟩
  case round =>
    obtain ⟨q, rfl, hq, hb, hb6⟩ := hrel
    have HB := Lib.hid hb
    by_cases hlt : q < 9
    · have hlt' : (q : Int) < 9 := by omega
      have hkw : IntKind.i64.wrap ((q : Int) + 1) = ((q + 1 : Nat) : Int) := by rw [IntWalk.i64_in _ (by omega)]; omega
      have hql : q < ls.length := by rw [HLS.out.1]; exact hlt
      obtain ⟨t, htt⟩ : ∃ t, ls[q] = t := ⟨_, rfl⟩
      have ht4 : t.length ≤ 4400 := by rw [← htt]; exact HLS.out.2 _ (List.getElem_mem hql)
      obtain ⟨zt2, hzt2⟩ : ∃ z, str t = z := ⟨_, rfl⟩
      have hcx : wr.cell? ⟨gs, q, none⟩ = some (.string zt2) := cell_of_block (block_below HGS.out hb6) q _ (by rw [← hzt2, ← htt]; simp [hql, strV])
      have HB6x := Lib.hid hb6
      have HT4 := Lib.hid ht4
      have HZT2 := Lib.hid hzt2
      have HLT := Lib.hid hlt
      clear htt ht4 hql hlt hb hb6 hq
      go_wp2_with fail
      have hea := event_any t (by have := HT4.out; omega) wr (HT.out.below HB.out)
      rw [HZT2.out] at hea
      clear hzt2
      refine hea.mono ?_
      clear hea
      rintro e w8 ⟨v8, rfl, hgv, hbv, hb8⟩
      have HB8x := Lib.hid (below_call HB.out hb8)
      have HB68 := Lib.hid (below_call HB6x.out hb8)
      by_cases hok : evOk t = true
      · have g5 := ok_B hok (by have := HT4.out; omega)
        have hR := hgv hok
        rw [hok, if_pos rfl]
        obtain ⟨kd1, hkd⟩ : ∃ kd1, kindS t = kd1 := ⟨_, rfl⟩
        obtain ⟨S1, hS⟩ : ∃ S1, evS t = S1 := ⟨_, rfl⟩
        rw [hkd, hS] at hR g5
        have HREV : Hid (∀ w, Calls Tryz.prog 9 #[.string zt2] w (EventPost kd1 true S1 w)) := Lib.hid fun w => by have := revent_any t (by have := HT4.out; omega) w; rwa [HZT2.out, hok, hkd, hS] at this
        obtain ⟨zn1, hzn1⟩ : ∃ z, str S1.node.name = z := ⟨_, rfl⟩
        obtain ⟨fl1, hfl1⟩ : ∃ z, S1.node.closed = z := ⟨_, rfl⟩
        have HZ1 := Lib.hid hzn1
        have HF1 := Lib.hid hfl1
        have G5 := Lib.hid g5
        clear hzn1 hfl1 g5 hkd hS
        obtain ⟨vp1', u1', x1', rfl, hp9, hu9, hx9⟩ := id hR
        obtain ⟨cp9, hcp9, -⟩ := id hp9
        obtain ⟨avp1, lvp1, cvp1, rfl⟩ := own_slice hcp9
        obtain ⟨au1, lu1, cu1, rfl⟩ := own_slice hu9
        obtain ⟨ax1, lx1, cx1, rfl⟩ := own_slice hx9
        rw [HZ1.out, HF1.out] at hR
        rw [HZ1.out, HF1.out]
        clear hp9 hcp9 hu9 hx9
        
        have HR8 := Lib.hid hR
        clear hgv hbv hR hok
        have hcx8 := cell_below hcx hb8
        have hcx9 : ∀ o, (w8.alloc o).cell? ⟨gs, q, none⟩ = some (.string zt2) := fun o => cell_below hcx8 (below_alloc' (Below.refl _ _) o)
        clear hcx8
        go_wp2_with fail
        have hev : (w8.alloc (.cells #[.int .i64 kd1, .int .i64 S1.a, .int .i64 S1.b, .int .i64 S1.id, .slice avp1 lvp1 cvp1, .string zn1, .int .i64 S1.node.cpu, .int .i64 S1.node.mem, .slice au1 lu1 cu1, .slice ax1 lx1 cx1, .bool fl1] 33)).heap[w8.heap.size]? = some (.cells #[.int .i64 kd1, .int .i64 S1.a, .int .i64 S1.b, .int .i64 S1.id, .slice avp1 lvp1 cvp1, .string zn1, .int .i64 S1.node.cpu, .int .i64 S1.node.mem, .slice au1 lu1 cu1, .slice ax1 lx1 cx1, .bool fl1] 33 (0, 0)) := alloc_at _ _
        have hb9 : Below w8.heap.size w8 (w8.alloc (.cells #[.int .i64 kd1, .int .i64 S1.a, .int .i64 S1.b, .int .i64 S1.id, .slice avp1 lvp1 cvp1, .string zn1, .int .i64 S1.node.cpu, .int .i64 S1.node.mem, .slice au1 lu1 cu1, .slice ax1 lx1 cx1, .bool fl1] 33)) := below_alloc' (Below.refl _ _) _
        clear hcx9
        generalize World.alloc w8 _ = w9 at hev hb9 ⊢
        have HEV9 := Lib.hid hev
        have HB9 := Lib.hid (below_call HB8x.out hb9)
        have HB69 := Lib.hid (below_call HB68.out hb9)
        have HR9 := Lib.hid (HR8.out.below hb9)
        clear hev hb9 hcx hb8
        refine (HREV.out w9).mono ?_
        rintro e w10 ⟨v10, rfl, hgv, hbv, hb10⟩
        have hR := hgv rfl
        rw [if_pos rfl]
        obtain ⟨vp2', u2', x2', rfl, hp9, hu9, hx9⟩ := id hR
        obtain ⟨cp9, hcp9, -⟩ := id hp9
        obtain ⟨avp2, lvp2, cvp2, rfl⟩ := own_slice hcp9
        obtain ⟨au2, lu2, cu2, rfl⟩ := own_slice hu9
        obtain ⟨ax2, lx2, cx2, rfl⟩ := own_slice hx9
        rw [HZ1.out, HF1.out] at hR
        rw [HZ1.out, HF1.out]
        clear hp9 hcp9 hu9 hx9
        
        have HEV10 := Lib.hid (block_below HEV9.out hb10)
        have HB10 := Lib.hid (below_call HB9.out hb10)
        have HB610 := Lib.hid (below_call HB69.out hb10)
        have HR10 := Lib.hid (HR9.out.below hb10)
        have HRR := Lib.hid hR
        clear hgv hbv hR hb10
        go_upto_region 16 with fail
        have hev2 : (w10.alloc (.cells #[.int .i64 kd1, .int .i64 S1.a, .int .i64 S1.b, .int .i64 S1.id, .slice avp2 lvp2 cvp2, .string zn1, .int .i64 S1.node.cpu, .int .i64 S1.node.mem, .slice au2 lu2 cu2, .slice ax2 lx2 cx2, .bool fl1] 34)).heap[w10.heap.size]? = some (.cells #[.int .i64 kd1, .int .i64 S1.a, .int .i64 S1.b, .int .i64 S1.id, .slice avp2 lvp2 cvp2, .string zn1, .int .i64 S1.node.cpu, .int .i64 S1.node.mem, .slice au2 lu2 cu2, .slice ax2 lx2 cx2, .bool fl1] 34 (0, 0)) := alloc_at _ _
        have hb11 : Below w10.heap.size w10 (w10.alloc (.cells #[.int .i64 kd1, .int .i64 S1.a, .int .i64 S1.b, .int .i64 S1.id, .slice avp2 lvp2 cvp2, .string zn1, .int .i64 S1.node.cpu, .int .i64 S1.node.mem, .slice au2 lu2 cu2, .slice ax2 lx2 cx2, .bool fl1] 34)) := below_alloc' (Below.refl _ _) _
        have hev1 := block_below HEV10.out hb11
        generalize World.alloc w10 _ = w11 at hev1 hev2 hb11 ⊢
        have HR11 := Lib.hid (HR10.out.below hb11)
        have HRR11 := Lib.hid (HRR.out.below hb11)
        have HB11 := Lib.hid (below_call HB10.out hb11)
        have HB611 := Lib.hid (below_call HB610.out hb11)
        have p0 := cell_of_block hev1 0 _ rfl
        have p1 := cell_of_block hev1 1 _ rfl
        have p2 := cell_of_block hev1 2 _ rfl
        have p3 := cell_of_block hev1 3 _ rfl
        have p4 := cell_of_block hev1 4 _ rfl
        have p5 := cell_of_block hev1 5 _ rfl
        have p6 := cell_of_block hev1 6 _ rfl
        have p7 := cell_of_block hev1 7 _ rfl
        have p8 := cell_of_block hev1 8 _ rfl
        have p9 := cell_of_block hev1 9 _ rfl
        have p10 := cell_of_block hev1 10 _ rfl
        have r0 := cell_of_block hev2 0 _ rfl
        have r1 := cell_of_block hev2 1 _ rfl
        have r2 := cell_of_block hev2 2 _ rfl
        have r3 := cell_of_block hev2 3 _ rfl
        have r4 := cell_of_block hev2 4 _ rfl
        have r5 := cell_of_block hev2 5 _ rfl
        have r6 := cell_of_block hev2 6 _ rfl
        have r7 := cell_of_block hev2 7 _ rfl
        have r8 := cell_of_block hev2 8 _ rfl
        have r9 := cell_of_block hev2 9 _ rfl
        have r10 := cell_of_block hev2 10 _ rfl
        clear hev1 hev2 hb11
        go_wp2_with fail
        refine (ev_same _ _ w11 _ _ kd1 S1 HR11.out HRR11.out G5.out).mono ?_
        rintro e w12 ⟨rfl, hb12⟩
        have HB12 := Lib.hid (below_call HB11.out hb12)
        have HB6 := Lib.hid (below_call HB611.out hb12)
        clear hb12 p0 r0 p1 r1 p2 r2 p3 r3 p4 r4 p5 r5 p6 r6 p7 r7 p8 r8 p9 r9 p10 r10
        go_wp2
        go_roundw
        case rel => exact ⟨q + 1, by go_num, by have := HLT.out; omega, HB12.out, HB6.out⟩
        case measure => have := HLT.out; simp [intOf]; omega
      · have hf : evOk t = false := by simpa using hok
        have hv := hbv hf
        rw [hf]
        subst hv
        unfold zeroEv
        have HREV : Hid (∀ w, Calls Tryz.prog 9 #[.string zt2] w (EventPost (kindS t) false (evS t) w)) := Lib.hid fun w => by have := revent_any t (by have := HT4.out; omega) w; rwa [HZT2.out, hf] at this
        clear hgv hbv hf hok
        have hcx8 := cell_below hcx hb8
        have hcx9 : ∀ o, (w8.alloc o).cell? ⟨gs, q, none⟩ = some (.string zt2) := fun o => cell_below hcx8 (below_alloc' (Below.refl _ _) o)
        clear hcx8
        go_wp2_with fail
        have hev : (w8.alloc (.cells #[.int .i64 0, .int .i64 0, .int .i64 0, .int .i64 0, .slice none 0 0, .string ⟨#[]⟩, .int .i64 0, .int .i64 0, .slice none 0 0, .slice none 0 0, .bool false] 33)).heap[w8.heap.size]? = some (.cells #[.int .i64 0, .int .i64 0, .int .i64 0, .int .i64 0, .slice none 0 0, .string ⟨#[]⟩, .int .i64 0, .int .i64 0, .slice none 0 0, .slice none 0 0, .bool false] 33 (0, 0)) := alloc_at _ _
        have hb9 : Below w8.heap.size w8 (w8.alloc (.cells #[.int .i64 0, .int .i64 0, .int .i64 0, .int .i64 0, .slice none 0 0, .string ⟨#[]⟩, .int .i64 0, .int .i64 0, .slice none 0 0, .slice none 0 0, .bool false] 33)) := below_alloc' (Below.refl _ _) _
        clear hcx9
        generalize World.alloc w8 _ = w9 at hev hb9 ⊢
        have HEV9 := Lib.hid hev
        have HB9 := Lib.hid (below_call HB8x.out hb9)
        have HB69 := Lib.hid (below_call HB68.out hb9)
        clear hev hb9 hcx hb8
        refine (HREV.out w9).mono ?_
        rintro e w10 ⟨v10, rfl, hgv, hbv, hb10⟩
        have hv := hbv rfl
        subst hv
        unfold zeroEv
        rw [if_neg (by decide)]
        have HEV10 := Lib.hid (block_below HEV9.out hb10)
        have HB10 := Lib.hid (below_call HB9.out hb10)
        have HB610 := Lib.hid (below_call HB69.out hb10)
        clear hgv hbv hb10
        go_upto_region 16 with fail
        have hev2 : (w10.alloc (.cells #[.int .i64 0, .int .i64 0, .int .i64 0, .int .i64 0, .slice none 0 0, .string ⟨#[]⟩, .int .i64 0, .int .i64 0, .slice none 0 0, .slice none 0 0, .bool false] 34)).heap[w10.heap.size]? = some (.cells #[.int .i64 0, .int .i64 0, .int .i64 0, .int .i64 0, .slice none 0 0, .string ⟨#[]⟩, .int .i64 0, .int .i64 0, .slice none 0 0, .slice none 0 0, .bool false] 34 (0, 0)) := alloc_at _ _
        have hb11 : Below w10.heap.size w10 (w10.alloc (.cells #[.int .i64 0, .int .i64 0, .int .i64 0, .int .i64 0, .slice none 0 0, .string ⟨#[]⟩, .int .i64 0, .int .i64 0, .slice none 0 0, .slice none 0 0, .bool false] 34)) := below_alloc' (Below.refl _ _) _
        have hev1 := block_below HEV10.out hb11
        generalize World.alloc w10 _ = w11 at hev1 hev2 hb11 ⊢
        have HB11 := Lib.hid (below_call HB10.out hb11)
        have HB611 := Lib.hid (below_call HB610.out hb11)
        have p0 := cell_of_block hev1 0 _ rfl
        have p1 := cell_of_block hev1 1 _ rfl
        have p2 := cell_of_block hev1 2 _ rfl
        have p3 := cell_of_block hev1 3 _ rfl
        have p4 := cell_of_block hev1 4 _ rfl
        have p5 := cell_of_block hev1 5 _ rfl
        have p6 := cell_of_block hev1 6 _ rfl
        have p7 := cell_of_block hev1 7 _ rfl
        have p8 := cell_of_block hev1 8 _ rfl
        have p9 := cell_of_block hev1 9 _ rfl
        have p10 := cell_of_block hev1 10 _ rfl
        have r0 := cell_of_block hev2 0 _ rfl
        have r1 := cell_of_block hev2 1 _ rfl
        have r2 := cell_of_block hev2 2 _ rfl
        have r3 := cell_of_block hev2 3 _ rfl
        have r4 := cell_of_block hev2 4 _ rfl
        have r5 := cell_of_block hev2 5 _ rfl
        have r6 := cell_of_block hev2 6 _ rfl
        have r7 := cell_of_block hev2 7 _ rfl
        have r8 := cell_of_block hev2 8 _ rfl
        have r9 := cell_of_block hev2 9 _ rfl
        have r10 := cell_of_block hev2 10 _ rfl
        clear hev1 hev2 hb11
        go_wp2_with fail
        refine (same_zero w11).mono ?_
        rintro e w12 ⟨rfl, hb12⟩
        have HB12 := Lib.hid (below_call HB11.out hb12)
        have HB6 := Lib.hid (below_call HB611.out hb12)
        clear hb12 p0 r0 p1 r1 p2 r2 p3 r3 p4 r4 p5 r5 p6 r6 p7 r7 p8 r8 p9 r9 p10 r10
        go_wp2
        go_roundw
        case rel => exact ⟨q + 1, by go_num, by have := HLT.out; omega, HB12.out, HB6.out⟩
        case measure => have := HLT.out; simp [intOf]; omega
    · have e9 : q = 9 := by omega
      subst e9
      clear hb6 hb
      go_wp2
      go_ret
      exact ⟨rfl, HB.out⟩
end Go.Proofs.YtikamehjeaoilaaGreatDoor
/-! PlayReads: the row. -/
set_option linter.unusedVariables false
set_option linter.unusedSimpArgs false
namespace Go.Proofs.YtikamehjeaoilaaGreatDoor
open Go.RowKit

theorem str_of (s : ByteArray) : ∃ l, str l = s := ⟨s.data.toList, by cases s; simp [str]⟩
set_option maxHeartbeats 8000000 in
set_option maxRecDepth 1000000 in
theorem playReads_long (kd a b : Int) (v : Value) (n at_ y cut : Int) (zm zr : ByteArray) (hl : 60 < zm.size ∨ 300 < zr.size) (w : World) (ht : Tabs w) : Calls Tryz.prog 3 #[.int .i64 kd, .int .i64 a, .int .i64 b, v, .int .i64 n, .int .i64 at_, .int .u8 y, .int .i64 cut, .string zm, .string zr] w fun e w' => e = .returned (.bool true) ∧ Below w.heap.size w w' := by
  have HT := Lib.hid ht
  clear ht
  obtain ⟨mm, hmm⟩ : ∃ q, zm.size = q := ⟨_, rfl⟩
  obtain ⟨rr, hrr⟩ : ∃ q, zr.size = q := ⟨_, rfl⟩
  rw [hmm, hrr] at hl
  by_cases h6 : 60 < mm
  · have m60 : decide ((mm : Int) > 60) = true := decide_eq_true (by omega)
    clear hl h6
    go_enter Tryz.func3, Tryz.ntmps3
    go_wp2_with fail
    refine (known_any w HT.out).mono ?_
    rintro e w1 ⟨rfl, hb1⟩
    have HB1 := Lib.hid hb1
    clear hb1
    go_wp2
    go_ret
    exact ⟨rfl, HB1.out⟩
  · have m60 : decide ((mm : Int) > 60) = false := decide_eq_false (by omega)
    have r300 : decide ((rr : Int) > 300) = true := decide_eq_true (by omega)
    clear hl h6
    go_enter Tryz.func3, Tryz.ntmps3
    go_wp2_with fail
    refine (known_any w HT.out).mono ?_
    rintro e w1 ⟨rfl, hb1⟩
    have HB1 := Lib.hid hb1
    clear hb1
    go_wp2
    go_ret
    exact ⟨rfl, HB1.out⟩
theorem playReads_row (a0 a1 a2 : Int) (a3 : Option Addr) (len3 cap3 : Nat) (z3 : List Int) (a4 a5 a6 a7 : Int) (a8 a9 : ByteArray) (w : World) (w0 : (Lit.int .i64 a0).wf = true) (w1 : (Lit.int .i64 a1).wf = true) (w2 : (Lit.int .i64 a2).wf = true) (w3 : IsRow .i64 w a3 len3 cap3 z3) (y3 : len3 * 8 ≤ 140737488351232) (w4 : (Lit.int .i64 a4).wf = true) (w5 : (Lit.int .i64 a5).wf = true) (w6 : (Lit.int .u8 a6).wf = true) (w7 : (Lit.int .i64 a7).wf = true) (w8 : a8.size ≤ 140737488351232) (w9 : a9.size ≤ 140737488351232) (ht : Tabs w) :
    Calls Tryz.prog 3 #[.int .i64 a0, .int .i64 a1, .int .i64 a2, .slice a3 len3 cap3, .int .i64 a4, .int .i64 a5, .int .u8 a6, .int .i64 a7, .string a8, .string a9] w fun e w' => e = .returned (.bool true) ∧ Below w.heap.size w w' := by
  by_cases hl : 60 < a8.size ∨ 300 < a9.size
  · exact playReads_long a0 a1 a2 _ a4 a5 a6 a7 a8 a9 hl w ht
  · obtain ⟨m, rfl⟩ := str_of a8
    obtain ⟨r, rfl⟩ := str_of a9
    rw [str_size, str_size] at hl
    have h6 : IntKind.u8.min ≤ a6 ∧ a6 ≤ IntKind.u8.max := by simpa [Lit.wf] using w6
    rw [show IntKind.u8.min = 0 by decide, show IntKind.u8.max = 255 by decide] at h6
    obtain ⟨y, rfl⟩ : ∃ y : Nat, a6 = y := ⟨a6.toNat, by omega⟩
    exact playReads_any a0 a1 a2 _ _ a4 a5 y (by omega) a7 m r (by omega) (by omega) w (nums_row w3 y3) ht
end Go.Proofs.YtikamehjeaoilaaGreatDoor
