/- The reference's comparisons of equal things. -/
import Derived.Test.YtpkkjonajimefaaDoorV
import Derived.Test.YtpkkjonajimefaaDoorO
import Derived.Test.YtpkkjonajimefaaDoorPar
import Derived.BigRegion
set_option linter.unusedVariables false
set_option linter.unusedSimpArgs false
namespace Go.Proofs.YtpkkjonajimefaaDoor
open Go.RowKit

set_option maxHeartbeats 2000000 in
set_option maxRecDepth 100000 in
theorem ints_same (b1 b2 : Nat) (w : World) (v1 v2 : Value) (l : List Int) (h1 : Ints b1 w v1 l) (h2 : Ints b2 w v2 l) (hl : l.length ≤ 1099511627776) : Calls Tryd.prog 35 #[v1, v2] w fun e w' => e = .returned (.bool true) ∧ Below w.heap.size w w' := by
  obtain ⟨a1, c1, rfl⟩ := own_slicen h1
  obtain ⟨a2, c2, rfl⟩ := own_slicen h2
  have H1 := Lib.hid h1
  have H2 := Lib.hid h2
  clear h1 h2
  go_enter Tryd.func35, Tryd.ntmps35
  go_wp2
  go_loopw [5] (fun i wr => ∃ k : Nat, i = .int .i64 k ∧ k ≤ l.length ∧ Below w.heap.size w wr) (fun i _ => l.length - (intOf i).toNat)
  case atStart => exact ⟨0, rfl, Nat.zero_le _, Below.refl _ _⟩
  case round =>
    obtain ⟨k, rfl, hk, hb⟩ := hrel
    have HB := Lib.hid hb
    clear hb
    by_cases hlt : k < l.length
    · have hlt' : (k : Int) < l.length := by omega
      obtain ⟨g1, d1, e1, _⟩ := (own_forms H1.out).resolve_left (by rintro ⟨_, h, _⟩; omega)
      obtain ⟨g2, d2, e2, _⟩ := (own_forms H2.out).resolve_left (by rintro ⟨_, h, _⟩; omega)
      injection e1 with e1 _ e3
      injection e2 with e2 _ e4
      subst e1 e2 e3 e4
      obtain ⟨x, hx⟩ : ∃ x, l[k]? = some x := ⟨_, List.getElem?_eq_getElem hlt⟩
      have cell1 : w.cell? ⟨g1, k, none⟩ = some (.int .i64 x) := by rw [H1.out.cellAt k (by omega), List.getElem?_map, hx]; rfl
      have cell2 : w.cell? ⟨g2, k, none⟩ = some (.int .i64 x) := by rw [H2.out.cellAt k (by omega), List.getElem?_map, hx]; rfl
      have hs : ∀ w6, Below wr.drew.heap.size wr.drew w6 → w6.cell? ⟨g1, k, none⟩ = some (.int .i64 x) ∧ w6.cell? ⟨g2, k, none⟩ = some (.int .i64 x) := fun w6 h => ⟨cell_below (w := wr.drew) (cell_below cell1 HB.out.drew) h, cell_below (w := wr.drew) (cell_below cell2 HB.out.drew) h⟩
      have HS := Lib.hid hs
      clear hs cell1 cell2 hx
      go_wp2
      refine' Par.wp_region_pars (fun w w' => Below w.heap.size w w') 9 (by kernel_rfl) (by kernel_rfl) (by kernel_rfl) (by kernel_rfl) (by kernel_rfl) (by kernel_rfl)
        (fun w => Below.refl _ w) (fun h k => below_call h k) (fun vals => ?_)
      rotate_left
      simp only [List.take_succ_cons, List.take_zero, List.drop_succ_cons, List.drop_zero]
      (apply Par.par_x rfl; (focus (intro w6 hR hD K hK; replace hK := Lib.hid hK; obtain ⟨e0, e1⟩ := HS.out w6 hR; clear hR hD; go_simp; exact hK.out _ (Below.refl _ _))); simp only [Act.put, List.setIfInBounds_toArray, List.set_cons_zero, List.set_cons_succ, Nat.reduceAdd, List.cons_append, List.nil_append])
      (apply Par.par_x rfl; (focus (intro w6 hR hD K hK; replace hK := Lib.hid hK; obtain ⟨e0, e1⟩ := HS.out w6 hR; clear hR hD; go_simp; exact hK.out _ (Below.refl _ _))); simp only [Act.put, List.setIfInBounds_toArray, List.set_cons_zero, List.set_cons_succ, Nat.reduceAdd, List.cons_append, List.nil_append])
      (apply Par.par_x rfl; (focus (intro w6 hR hD K hK; replace hK := Lib.hid hK; obtain ⟨e0, e1⟩ := HS.out w6 hR; clear hR hD; go_simp; exact hK.out _ (Below.refl _ _))); simp only [Act.put, List.setIfInBounds_toArray, List.set_cons_zero, List.set_cons_succ, Nat.reduceAdd, List.cons_append, List.nil_append])
      (apply Par.par_x rfl; (focus (intro w6 hR hD K hK; replace hK := Lib.hid hK; obtain ⟨e0, e1⟩ := HS.out w6 hR; clear hR hD; go_simp; exact hK.out _ (Below.refl _ _))); simp only [Act.put, List.setIfInBounds_toArray, List.set_cons_zero, List.set_cons_succ, Nat.reduceAdd, List.cons_append, List.nil_append])
      (apply Par.par_x rfl; (focus (intro w6 hR hD K hK; replace hK := Lib.hid hK; obtain ⟨e0, e1⟩ := HS.out w6 hR; clear hR hD; go_simp; exact hK.out _ (Below.refl _ _))); simp only [Act.put, List.setIfInBounds_toArray, List.set_cons_zero, List.set_cons_succ, Nat.reduceAdd, List.cons_append, List.nil_append])
      (apply Par.par_x rfl; (focus (intro w6 hR hD K hK; replace hK := Lib.hid hK; obtain ⟨e0, e1⟩ := HS.out w6 hR; clear hR hD; go_simp; exact hK.out _ (Below.refl _ _))); simp only [Act.put, List.setIfInBounds_toArray, List.set_cons_zero, List.set_cons_succ, Nat.reduceAdd, List.cons_append, List.nil_append])
      (apply Par.par_x rfl; (focus (intro w6 hR hD K hK; replace hK := Lib.hid hK; obtain ⟨e0, e1⟩ := HS.out w6 hR; clear hR hD; go_simp; exact hK.out _ (Below.refl _ _))); simp only [Act.put, List.setIfInBounds_toArray, List.set_cons_zero, List.set_cons_succ, Nat.reduceAdd, List.cons_append, List.nil_append])
      (apply Par.par_x rfl; (focus (intro w6 hR hD K hK; replace hK := Lib.hid hK; obtain ⟨e0, e1⟩ := HS.out w6 hR; clear hR hD; go_simp; exact hK.out _ (Below.refl _ _))); simp only [Act.put, List.setIfInBounds_toArray, List.set_cons_zero, List.set_cons_succ, Nat.reduceAdd, List.cons_append, List.nil_append])
      (apply Par.par_x rfl; (focus (intro w6 hR hD K hK; replace hK := Lib.hid hK; obtain ⟨e0, e1⟩ := HS.out w6 hR; clear hR hD; go_simp; exact hK.out _ (Below.refl _ _))); simp only [Act.put, List.setIfInBounds_toArray, List.set_cons_zero, List.set_cons_succ, Nat.reduceAdd, List.cons_append, List.nil_append])
      refine Par.par_end fun w6 hR hp => ?_
      clear hp
      have HB6 := Lib.hid (below_call HB.out.drew hR)
      clear hR HS
      go_wp2
      go_roundw
      case rel => exact ⟨k + 1, by go_num, by omega, HB6.out⟩
      case measure => simp [intOf]; omega
    · obtain rfl : k = l.length := by omega
      go_wp2
      go_ret
      exact ⟨rfl, HB.out⟩
set_option maxHeartbeats 2000000 in
set_option maxRecDepth 100000 in
theorem strs_same (b1 b2 : Nat) (w : World) (v1 v2 : Value) (l : List ByteArray) (h1 : Strs b1 w v1 l) (h2 : Strs b2 w v2 l) (hl : l.length ≤ 1099511627776) : Calls Tryd.prog 45 #[v1, v2] w fun e w' => e = .returned (.bool true) ∧ Below w.heap.size w w' := by
  obtain ⟨a1, c1, rfl⟩ := own_slicen h1
  obtain ⟨a2, c2, rfl⟩ := own_slicen h2
  have H1 := Lib.hid h1
  have H2 := Lib.hid h2
  clear h1 h2
  go_enter Tryd.func45, Tryd.ntmps45
  go_wp2
  go_loopw [5] (fun i wr => ∃ k : Nat, i = .int .i64 k ∧ k ≤ l.length ∧ Below w.heap.size w wr) (fun i _ => l.length - (intOf i).toNat)
  case atStart => exact ⟨0, rfl, Nat.zero_le _, Below.refl _ _⟩
  case round =>
    obtain ⟨k, rfl, hk, hb⟩ := hrel
    have HB := Lib.hid hb
    clear hb
    by_cases hlt : k < l.length
    · have hlt' : (k : Int) < l.length := by omega
      obtain ⟨g1, d1, e1, _⟩ := (own_forms H1.out).resolve_left (by rintro ⟨_, h, _⟩; omega)
      obtain ⟨g2, d2, e2, _⟩ := (own_forms H2.out).resolve_left (by rintro ⟨_, h, _⟩; omega)
      injection e1 with e1 _ e3
      injection e2 with e2 _ e4
      subst e1 e2 e3 e4
      obtain ⟨x, hx⟩ : ∃ x, l[k]? = some x := ⟨_, List.getElem?_eq_getElem hlt⟩
      have cell1 : w.cell? ⟨g1, k, none⟩ = some (.string x) := by rw [H1.out.cellAt k (by omega), List.getElem?_map, hx]; rfl
      have cell2 : w.cell? ⟨g2, k, none⟩ = some (.string x) := by rw [H2.out.cellAt k (by omega), List.getElem?_map, hx]; rfl
      have hs : ∀ w6, Below wr.drew.heap.size wr.drew w6 → w6.cell? ⟨g1, k, none⟩ = some (.string x) ∧ w6.cell? ⟨g2, k, none⟩ = some (.string x) := fun w6 h => ⟨cell_below (w := wr.drew) (cell_below cell1 HB.out.drew) h, cell_below (w := wr.drew) (cell_below cell2 HB.out.drew) h⟩
      have HS := Lib.hid hs
      clear hs cell1 cell2 hx
      go_wp2
      refine' Par.wp_region_pars (fun w w' => Below w.heap.size w w') 9 (by kernel_rfl) (by kernel_rfl) (by kernel_rfl) (by kernel_rfl) (by kernel_rfl) (by kernel_rfl)
        (fun w => Below.refl _ w) (fun h k => below_call h k) (fun vals => ?_)
      rotate_left
      simp only [List.take_succ_cons, List.take_zero, List.drop_succ_cons, List.drop_zero]
      (apply Par.par_x rfl; (focus (intro w6 hR hD K hK; replace hK := Lib.hid hK; obtain ⟨e0, e1⟩ := HS.out w6 hR; clear hR hD; go_simp; exact hK.out _ (Below.refl _ _))); simp only [Act.put, List.setIfInBounds_toArray, List.set_cons_zero, List.set_cons_succ, Nat.reduceAdd, List.cons_append, List.nil_append])
      (apply Par.par_x rfl; (focus (intro w6 hR hD K hK; replace hK := Lib.hid hK; obtain ⟨e0, e1⟩ := HS.out w6 hR; clear hR hD; go_simp; exact hK.out _ (Below.refl _ _))); simp only [Act.put, List.setIfInBounds_toArray, List.set_cons_zero, List.set_cons_succ, Nat.reduceAdd, List.cons_append, List.nil_append])
      (apply Par.par_x rfl; (focus (intro w6 hR hD K hK; replace hK := Lib.hid hK; obtain ⟨e0, e1⟩ := HS.out w6 hR; clear hR hD; go_simp; exact hK.out _ (Below.refl _ _))); simp only [Act.put, List.setIfInBounds_toArray, List.set_cons_zero, List.set_cons_succ, Nat.reduceAdd, List.cons_append, List.nil_append])
      (apply Par.par_x rfl; (focus (intro w6 hR hD K hK; replace hK := Lib.hid hK; obtain ⟨e0, e1⟩ := HS.out w6 hR; clear hR hD; go_simp; exact hK.out _ (Below.refl _ _))); simp only [Act.put, List.setIfInBounds_toArray, List.set_cons_zero, List.set_cons_succ, Nat.reduceAdd, List.cons_append, List.nil_append])
      (apply Par.par_x rfl; (focus (intro w6 hR hD K hK; replace hK := Lib.hid hK; obtain ⟨e0, e1⟩ := HS.out w6 hR; clear hR hD; go_simp; exact hK.out _ (Below.refl _ _))); simp only [Act.put, List.setIfInBounds_toArray, List.set_cons_zero, List.set_cons_succ, Nat.reduceAdd, List.cons_append, List.nil_append])
      (apply Par.par_x rfl; (focus (intro w6 hR hD K hK; replace hK := Lib.hid hK; obtain ⟨e0, e1⟩ := HS.out w6 hR; clear hR hD; go_simp; exact hK.out _ (Below.refl _ _))); simp only [Act.put, List.setIfInBounds_toArray, List.set_cons_zero, List.set_cons_succ, Nat.reduceAdd, List.cons_append, List.nil_append])
      (apply Par.par_x rfl; (focus (intro w6 hR hD K hK; replace hK := Lib.hid hK; obtain ⟨e0, e1⟩ := HS.out w6 hR; clear hR hD; go_simp; exact hK.out _ (Below.refl _ _))); simp only [Act.put, List.setIfInBounds_toArray, List.set_cons_zero, List.set_cons_succ, Nat.reduceAdd, List.cons_append, List.nil_append])
      (apply Par.par_x rfl; (focus (intro w6 hR hD K hK; replace hK := Lib.hid hK; obtain ⟨e0, e1⟩ := HS.out w6 hR; clear hR hD; go_simp; exact hK.out _ (Below.refl _ _))); simp only [Act.put, List.setIfInBounds_toArray, List.set_cons_zero, List.set_cons_succ, Nat.reduceAdd, List.cons_append, List.nil_append])
      (apply Par.par_x rfl; (focus (intro w6 hR hD K hK; replace hK := Lib.hid hK; obtain ⟨e0, e1⟩ := HS.out w6 hR; clear hR hD; go_simp; exact hK.out _ (Below.refl _ _))); simp only [Act.put, List.setIfInBounds_toArray, List.set_cons_zero, List.set_cons_succ, Nat.reduceAdd, List.cons_append, List.nil_append])
      refine Par.par_end fun w6 hR hp => ?_
      clear hp
      have HB6 := Lib.hid (below_call HB.out.drew hR)
      clear hR HS
      go_wp2
      go_roundw
      case rel => exact ⟨k + 1, by go_num, by omega, HB6.out⟩
      case measure => simp [intOf]; omega
    · obtain rfl : k = l.length := by omega
      go_wp2
      go_ret
      exact ⟨rfl, HB.out⟩

theorem pods_len {b : Nat} {w : World} {v : Value} {l : List PodM} (h : PodsAt b w v l) : ∃ a c, v = .slice a l.length c := by
  obtain ⟨_, h, _⟩ := h
  exact own_slicen h
/-- The seven cells of one pod of a row. -/
theorem pods_cells {b : Nat} {w : World} {a : Option Addr} {n c : Nat} {l : List PodM} (h : PodsAt b w (.slice a n c) l) {k : Nat} (hk : k < l.length) :
    ∃ g u v, a = some ⟨g, 0, none⟩ ∧ (∀ j x, [Value.string (l.getD k noPod).name, .int .i64 (l.getD k noPod).shard, .int .i64 (l.getD k noPod).cpu, .int .i64 (l.getD k noPod).mem, u, v, .bool (l.getD k noPod).alone][j]? = some x → w.cell? ⟨g, k * 7 + j, none⟩ = some x) ∧ Strs b w u (l.getD k noPod).picks ∧ Strs b w v (l.getD k noPod).bears := by
  obtain ⟨cc, h1, h2⟩ := h
  obtain ⟨g, cap, e, _⟩ := (own_forms h1).resolve_left (by rintro ⟨_, h, _⟩; omega)
  injection e with e1 e2 e3
  subst e1 e2 e3
  obtain ⟨u, v, e, h3, h4⟩ := h2 k hk
  refine ⟨g, u, v, rfl, fun j x hx => ?_, h3, h4⟩
  have hj : j < 7 := by
    have := (List.getElem?_eq_some_iff.1 hx).1
    exact this
  rw [h1.cellAt _ (by have := Nat.mul_le_mul_right 7 (show k + 1 ≤ l.length from hk); omega), flat_get (s := 7) (fun i hi => (h2 i hi).len) hk hj, e]
  exact hx

set_option maxHeartbeats 4000000 in
set_option maxRecDepth 100000 in
theorem pods_same (b1 b2 : Nat) (w : World) (v1 v2 : Value) (l : List PodM) (h1 : PodsAt b1 w v1 l) (h2 : PodsAt b2 w v2 l) (hl : l.length ≤ 1099511627776) (hf : ∀ i, i < l.length → (l.getD i noPod).picks.length ≤ 1073741824 ∧ (l.getD i noPod).bears.length ≤ 1073741824) : Calls Tryd.prog 34 #[v1, v2] w fun e w' => e = .returned (.bool true) ∧ Below w.heap.size w w' := by
  obtain ⟨a1, c1, rfl⟩ := pods_len h1
  obtain ⟨a2, c2, rfl⟩ := pods_len h2
  have H1 := Lib.hid h1
  have H2 := Lib.hid h2
  have HF := Lib.hid hf
  clear h1 h2 hf
  go_enter Tryd.func34, Tryd.ntmps34
  go_wp2
  go_loopw [5] (fun i wr => ∃ k : Nat, i = .int .i64 k ∧ k ≤ l.length ∧ Below w.heap.size w wr) (fun i _ => l.length - (intOf i).toNat)
  case atStart => exact ⟨0, rfl, Nat.zero_le _, Below.refl _ _⟩
  case round =>
    obtain ⟨k, rfl, hk, hb⟩ := hrel
    have HB := Lib.hid hb
    clear hb
    by_cases hlt : k < l.length
    · have hlt' : (k : Int) < l.length := by omega
      obtain ⟨g1, u1, x1, rfl, hc1, hu1, hx1⟩ := pods_cells H1.out hlt
      obtain ⟨g2, u2, x2, rfl, hc2, hu2, hx2⟩ := pods_cells H2.out hlt
      have hfew := HF.out k hlt
      obtain ⟨pk, hpk⟩ : ∃ pk, l.getD k noPod = pk := ⟨_, rfl⟩
      rw [hpk] at hc1 hu1 hx1 hc2 hu2 hx2 hfew
      obtain ⟨ua1, ul1, uc1, rfl⟩ := own_slice hu1
      obtain ⟨ua2, ul2, uc2, rfl⟩ := own_slice hu2
      obtain ⟨xa1, xl1, xc1, rfl⟩ := own_slice hx1
      obtain ⟨xa2, xl2, xc2, rfl⟩ := own_slice hx2
      have p0 : wr.cell? ⟨g1, k * 7, none⟩ = some (.string pk.name) := cell_below (hc1 0 _ rfl) HB.out
      have q0 : wr.cell? ⟨g2, k * 7, none⟩ = some (.string pk.name) := cell_below (hc2 0 _ rfl) HB.out
      have p1 := cell_below (hc1 1 _ rfl) HB.out
      have q1 := cell_below (hc2 1 _ rfl) HB.out
      have p2 := cell_below (hc1 2 _ rfl) HB.out
      have q2 := cell_below (hc2 2 _ rfl) HB.out
      have p3 := cell_below (hc1 3 _ rfl) HB.out
      have q3 := cell_below (hc2 3 _ rfl) HB.out
      have p4 := cell_below (hc1 4 _ rfl) HB.out
      have q4 := cell_below (hc2 4 _ rfl) HB.out
      have p5 := cell_below (hc1 5 _ rfl) HB.out
      have q5 := cell_below (hc2 5 _ rfl) HB.out
      have p6 := cell_below (hc1 6 _ rfl) HB.out
      have q6 := cell_below (hc2 6 _ rfl) HB.out
      have hb1 : g1 < wr.heap.size := World.block_lt_of_cell? wr _ p0
      have hb2 : g2 < wr.heap.size := World.block_lt_of_cell? wr _ q0
      have hn1 : g1 ≠ wr.heap.size := by omega
      have hn2 : g2 ≠ wr.heap.size := by omega
      have hn3 : g1 ≠ wr.heap.size + 1 := by omega
      have hn4 : g2 ≠ wr.heap.size + 1 := by omega
      have HU1 := Lib.hid hu1
      have HU2 := Lib.hid hu2
      have HX1 := Lib.hid hx1
      have HX2 := Lib.hid hx2
      have HFW := Lib.hid hfew
      clear hc1 hc2 hu1 hu2 hx1 hx2 hfew hpk
      go_wp2
      go_region
      all_goals clear p0 p1 p2 p3 p4 p5 p6 q0 q1 q2 q3 q4 q5 q6 hn1 hn2 hn3 hn4 hb1 hb2
      · generalize hw5 : World.drew _ = w5
        have hb5 : Below wr.heap.size wr w5 := by rw [← hw5]; exact (below_alloc' (below_alloc' (Below.refl _ _) _) _).drew
        have z6 : w5.heap[wr.heap.size]? = some (.cells #[.string pk.name, .int .i64 pk.shard, .int .i64 pk.cpu, .int .i64 pk.mem, .slice ua1 ul1 uc1, .slice xa1 xl1 xc1, .bool pk.alone] 53 (0, 0)) := by rw [← hw5]; (show (World.alloc (World.alloc _ _) _).heap[_]? = _); rw [Below.heap_alloc _ _ _ (by simp)]; exact alloc_at _ _
        have z7 : w5.heap[wr.heap.size + 1]? = some (.cells #[.string pk.name, .int .i64 pk.shard, .int .i64 pk.cpu, .int .i64 pk.mem, .slice ua2 ul2 uc2, .slice xa2 xl2 xc2, .bool pk.alone] 53 (0, 0)) := by rw [← hw5]; exact alloc_second _ _ _
        clear hw5
        have a0 := cell_of_block z6 0 _ rfl
        have a1 := cell_of_block z6 1 _ rfl
        have a2 := cell_of_block z6 2 _ rfl
        have a3 := cell_of_block z6 3 _ rfl
        have a4 := cell_of_block z6 4 _ rfl
        have a6 := cell_of_block z6 6 _ rfl
        have b0 := cell_of_block z7 0 _ rfl
        have b1 := cell_of_block z7 1 _ rfl
        have b2 := cell_of_block z7 2 _ rfl
        have b3 := cell_of_block z7 3 _ rfl
        have b4 := cell_of_block z7 4 _ rfl
        have b6 := cell_of_block z7 6 _ rfl
        have Z6 := Lib.hid z6
        have Z7 := Lib.hid z7
        have HB5 := Lib.hid (below_call HB.out hb5)
        clear z6 z7 hb5
        go_wp2_with fail
        refine (strs_same _ _ w5 _ _ pk.picks (HU1.out.still (Still.of_below HB5.out)) (HU2.out.still (Still.of_below HB5.out)) (by have := HFW.out.1; omega)).mono ?_
        rintro r w7 ⟨rfl, hb⟩
        have HB7 := Lib.hid (below_call HB5.out hb)
        have d5 := cell_of_block (block_below Z6.out hb) 5 _ rfl
        have e5 := cell_of_block (block_below Z7.out hb) 5 _ rfl
        clear hb a0 a1 a2 a3 a4 a6 b0 b1 b2 b3 b4 b6
        go_wp2_with fail
        refine (strs_same _ _ w7 _ _ pk.bears (HX1.out.still (Still.of_below HB7.out)) (HX2.out.still (Still.of_below HB7.out)) (by have := HFW.out.2; omega)).mono ?_
        rintro r w8 ⟨rfl, hb⟩
        have HB8 := Lib.hid (below_call HB7.out hb)
        clear hb d5 e5
        go_wp2
        go_roundw
        case rel => exact ⟨k + 1, by go_num, by omega, HB8.out⟩
        case measure => simp [intOf]; omega
      · generalize hw5 : World.drew _ = w5
        have hb5 : Below wr.heap.size wr w5 := by rw [← hw5]; exact (below_alloc' (below_alloc' (Below.refl _ _) _) _).drew
        have z6 : w5.heap[wr.heap.size + 1]? = some (.cells #[.string pk.name, .int .i64 pk.shard, .int .i64 pk.cpu, .int .i64 pk.mem, .slice ua1 ul1 uc1, .slice xa1 xl1 xc1, .bool pk.alone] 53 (0, 0)) := by rw [← hw5]; exact alloc_second _ _ _
        have z7 : w5.heap[wr.heap.size]? = some (.cells #[.string pk.name, .int .i64 pk.shard, .int .i64 pk.cpu, .int .i64 pk.mem, .slice ua2 ul2 uc2, .slice xa2 xl2 xc2, .bool pk.alone] 53 (0, 0)) := by rw [← hw5]; (show (World.alloc (World.alloc _ _) _).heap[_]? = _); rw [Below.heap_alloc _ _ _ (by simp)]; exact alloc_at _ _
        clear hw5
        have a0 := cell_of_block z6 0 _ rfl
        have a1 := cell_of_block z6 1 _ rfl
        have a2 := cell_of_block z6 2 _ rfl
        have a3 := cell_of_block z6 3 _ rfl
        have a4 := cell_of_block z6 4 _ rfl
        have a6 := cell_of_block z6 6 _ rfl
        have b0 := cell_of_block z7 0 _ rfl
        have b1 := cell_of_block z7 1 _ rfl
        have b2 := cell_of_block z7 2 _ rfl
        have b3 := cell_of_block z7 3 _ rfl
        have b4 := cell_of_block z7 4 _ rfl
        have b6 := cell_of_block z7 6 _ rfl
        have Z6 := Lib.hid z6
        have Z7 := Lib.hid z7
        have HB5 := Lib.hid (below_call HB.out hb5)
        clear z6 z7 hb5
        go_wp2_with fail
        refine (strs_same _ _ w5 _ _ pk.picks (HU1.out.still (Still.of_below HB5.out)) (HU2.out.still (Still.of_below HB5.out)) (by have := HFW.out.1; omega)).mono ?_
        rintro r w7 ⟨rfl, hb⟩
        have HB7 := Lib.hid (below_call HB5.out hb)
        have d5 := cell_of_block (block_below Z6.out hb) 5 _ rfl
        have e5 := cell_of_block (block_below Z7.out hb) 5 _ rfl
        clear hb a0 a1 a2 a3 a4 a6 b0 b1 b2 b3 b4 b6
        go_wp2_with fail
        refine (strs_same _ _ w7 _ _ pk.bears (HX1.out.still (Still.of_below HB7.out)) (HX2.out.still (Still.of_below HB7.out)) (by have := HFW.out.2; omega)).mono ?_
        rintro r w8 ⟨rfl, hb⟩
        have HB8 := Lib.hid (below_call HB7.out hb)
        clear hb d5 e5
        go_wp2
        go_roundw
        case rel => exact ⟨k + 1, by go_num, by omega, HB8.out⟩
        case measure => simp [intOf]; omega
    · obtain rfl : k = l.length := by omega
      go_wp2
      go_ret
      exact ⟨rfl, HB.out⟩
end Go.Proofs.YtpkkjonajimefaaDoor
