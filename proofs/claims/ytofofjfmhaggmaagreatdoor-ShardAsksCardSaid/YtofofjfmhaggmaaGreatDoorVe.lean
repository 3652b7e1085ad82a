/- What is used of a node, by the program: a walk over the map of places, in whatever order. -/
import Derived.Test.YtofofjfmhaggmaaGreatDoorVb
import Derived.Test.YtofofjfmhaggmaaGreatDoorVc
import Derived.Maps.RangeWalk
set_option linter.unusedVariables false
set_option linter.unusedSimpArgs false
namespace Go.Proofs.YtofofjfmhaggmaaGreatDoor
open Go.RowKit
open Go.ChangeMaps (setBlock)
open MapKept
section
variable {d : TypeDesc} {κ : Type} (c : Enc d κ) {P : Program} {w : World} {ops : Array Oper} {rest : List Oper} {o : Oper} {a : Act} {Q : Exit → Act → World → Prop}
theorem Ranges.left_eq {b r : Nat} {es left : List (κ × Value)} (h : Ranges c w b r es left) : w.rangeLeft b r = left.length := by
  obtain ⟨E, cl, s, c0, seen, h1, h2, h3, h4, h5, h6, h7, h8⟩ := h
  have := congrArg List.length h8
  simp only [List.length_map, Array.length_toList] at this
  unfold World.rangeLeft
  rw [h1, h4]
  exact this
/-- 'range m' at a list of operations. -/
theorem list_range (hg : o.guard = none) (m : Operand) (t : TypeId) (hop : o.op = Op.range t m) {k e : TypeId} (ht : P.underlying t = some (.map k e)) {b : Nat} {es : List (κ × Value)} (hm : a.eval m = .map (some b)) (h : MapIs c w b es)
    (hK : ∀ obj, Ranges c (w.alloc obj) b w.heap.size es es → wpList P ops Q rest (a.put o.dst (.pointer (some ⟨w.heap.size, 0, none⟩))) (w.alloc obj)) : wpList P ops Q (o :: rest) a w := by
  refine wpList_plain hg fun K' hK' => ?_
  obtain ⟨obj, hrun, r1⟩ := h.range c ht
  unfold Oper.wp
  simp [execOp, hop, hm, hrun, Result.andThen]
  exact hK' _ _ (hK obj r1)
/-- The step. -/
theorem list_next (hg : o.guard = none) (it : Operand) (hop : o.op = Op.next it false) {b r : Nat} {es left : List (κ × Value)} (hit : a.eval it = .pointer (some ⟨r, 0, none⟩)) (h : Ranges c w b r es left)
    (hDone : left = [] → wpList P ops Q rest (a.put o.dst (.tuple #[.bool false])) w)
    (hMore : ∀ l1 p l2 w', left = l1 ++ p :: l2 → Ranges c w' b r es (l1 ++ l2) → w.grownBy w' (some r) → w'.heap.size = w.heap.size → (Instr.entry (.pointer (some ⟨r, 0, none⟩))).run P w' = .ok (.tuple #[c.f p.1, p.2]) w' → wpList P ops Q rest (a.put o.dst (.tuple #[.bool true, c.f p.1, p.2])) w') :
    wpList P ops Q (o :: rest) a w := by
  refine wpList_plain hg fun K' hK' => ?_
  unfold Oper.wp
  rcases h.next c (P := P) o.type with ⟨h0, hrun⟩ | ⟨l1, p, l2, w', h0, hrun, hR, hgr, hsz, hen⟩
  · simp [execOp, hop, hit, hrun, Result.andThen]
    exact hK' _ _ (hDone h0)
  · simp [execOp, hop, hit, hrun, Result.andThen]
    exact hK' _ _ (hMore l1 p l2 w' h0 hR hgr hsz hen)
end
theorem onP_len_le (nm : List UInt8) (l : List PlaceL) : (onP nm l).length ≤ l.length := List.length_filter_le _ _
theorem flat_cells {Q : Nat → Prop} {w : World} {v : Value} {l : List PlaceL} (h : PlacesQ Q w v l) : ∃ a c, v = .slice a l.length c ∧ ∀ i (hi : i < l.length), ∃ b, a = some ⟨b, 0, none⟩ ∧ b < w.heap.size ∧ l.length ≤ c ∧
    w.cell? ⟨b, i * 5, none⟩ = some (.string (str l[i].pod)) ∧ w.cell? ⟨b, i * 5 + 1, none⟩ = some (.string (str l[i].node)) ∧ w.cell? ⟨b, i * 5 + 2, none⟩ = some (.int .i64 l[i].cpu) ∧ w.cell? ⟨b, i * 5 + 3, none⟩ = some (.int .i64 l[i].mem) ∧ w.cell? ⟨b, i * 5 + 4, none⟩ = some (.bool l[i].alone) := by
  have hlen : ∀ (l : List PlaceL), (l.flatMap placeV).length = l.length * 5 := fun l => by
    induction l with
    | nil => rfl
    | cons x l ih => rw [List.flatMap_cons, List.length_append, ih, List.length_cons]; simp [placeV]; omega
  have hget : ∀ (l : List PlaceL) (i j : Nat) (hi : i < l.length), j < 5 → (l.flatMap placeV)[i * 5 + j]? = (placeV l[i])[j]? := fun l => by
    induction l with
    | nil => intro i j hi; exact absurd hi (Nat.not_lt_zero _)
    | cons x l ih =>
      intro i j hi hj
      have hx : (placeV x).length = 5 := rfl
      cases i with
      | zero => rw [List.flatMap_cons, List.getElem?_append_left (by rw [hx]; omega)]; simp
      | succ i =>
        rw [List.flatMap_cons, List.getElem?_append_right (by rw [hx]; omega), hx, show (i + 1) * 5 + j - 5 = i * 5 + j by omega]
        exact ih i j (by simpa using hi) hj
  rcases own_forms h.1 with ⟨rfl, h0, h1⟩ | ⟨g, cap, rfl, _, hg⟩
  · exact ⟨_, _, by rw [h0], fun i hi => by omega⟩
  · refine ⟨_, _, rfl, fun i hi => ⟨g, rfl, hg, ?_⟩⟩
    obtain ⟨_, cap', cur, e1, _, _, hc, _⟩ := h.1.2.resolve_left (by rintro ⟨h, _⟩; cases h)
    injection e1 with _ _ e3
    have k : ∀ j, j < 5 → w.cell? ⟨g, i * 5 + j, none⟩ = (placeV l[i])[j]? := fun j hj => by
      rw [h.1.cellAt (i * 5 + j) (by omega), hget l i j hi hj]
    exact ⟨by omega, k 0 (by omega), k 1 (by omega), k 2 (by omega), k 3 (by omega), k 4 (by omega)⟩

theorem old_al {w : World} {i : Nat} {p o : Obj} (h : w.heap[i]? = some p) : (w.alloc o).heap[i]? = some p := block_below h (below_alloc' (Below.refl _ _) _)
theorem put3 {w : World} {g : Nat} {T : TypeId} {a b c : Value} (x y z : Value) (h : w.heap[g]? = some (.cells #[a, b, c] T (0, 0))) : (((w.setCell ⟨g, 0, none⟩ x).setCell ⟨g, 1, none⟩ y).setCell ⟨g, 2, none⟩ z).heap[g]? = some (.cells #[x, y, z] T (0, 0)) := by
  rw [heap_setCell_same _ g 2 #[x, y, c] T z (by rw [heap_setCell_same _ g 1 #[x, b, c] T y (by rw [heap_setCell_same w g 0 #[a, b, c] T x h]; rfl)]; rfl)]
  rfl
/-- The sums so far, and what is still to come. -/
structure UsedR (Q : Nat → Prop) (w : World) (L : LedL) (nm : List UInt8) (b : Nat) (es : List (Int × Value)) (left : List (Int × Value)) (ts : List (Int × List PlaceL)) (c m k : Nat) (wr : World) : Prop where
  rg : Ranges encI wr b (w.heap.size + 1 + 1) es left
  all : All2 (fun e t => e.1 = t.1 ∧ PlacesQ Q w e.2 t.2) left ts
  bl : Below w.heap.size w wr
  z : wr.heap[w.heap.size]? = some (.cells #[.int .i64 0, .int .i64 0, .int .i64 0] 156 (0, 0))
  u : wr.heap[w.heap.size + 1]? = some (.cells #[.int .i64 c, .int .i64 m, .int .i64 k] 156 (0, 0))
  sc : c + cpuS (onP nm (ts.flatMap Prod.snd)) = L.cpu nm
  sm : m + memS (onP nm (ts.flatMap Prod.snd)) = L.mem nm
  sk : k + (onP nm (ts.flatMap Prod.snd)).length = L.pods nm
  sub : ∀ t ∈ ts, t ∈ L.taken
theorem all_len {l : List (Int × List PlaceL)} (h : ∀ t ∈ l, t.2.length ≤ 8) : (l.flatMap Prod.snd).length ≤ 8 * l.length := by
  induction l with
  | nil => simp
  | cons t l ih =>
    have h1 := h t List.mem_cons_self
    have h2 := ih fun x hx => h x (List.mem_cons_of_mem _ hx)
    rw [List.flatMap_cons, List.length_append, List.length_cons]
    omega
theorem LedL.pods_le {L : LedL} (h : L.ok) (nm : List UInt8) : L.pods nm ≤ 8 * L.taken.length := Nat.le_trans (onP_len_le _ _) (all_len fun t ht => (h.some t ht).2.1)
theorem Ranges.gb {d : TypeDesc} {κ : Type} (c : Enc d κ) {w w' : World} {b r g : Nat} {es left : List (κ × Value)} (h : Ranges c w b r es left) (k : Gb g w w') (hb : b ≠ g) (hr : r ≠ g) : Ranges c w' b r es left :=
  h.same c (k.block b h.lt.1 (by simp; exact hb)) (k.block r h.lt.2.1 (by simp; exact hr))
theorem onP_snoc {nm : List UInt8} {ps : List PlaceL} {j : Nat} (hj : j < ps.length) : onP nm (ps.take (j + 1)) = if ps[j].node = nm then onP nm (ps.take j) ++ [ps[j]] else onP nm (ps.take j) := by
  rw [List.take_succ_eq_append_getElem hj, onP_append]
  unfold onP
  by_cases h : ps[j].node = nm <;> simp [h]
/-- The same within one gang's places: j of them are counted. -/
structure UsedI (w : World) (nm : List UInt8) (b : Nat) (es left : List (Int × Value)) (c m k : Nat) (ps : List PlaceL) (j x y z : Nat) (wr : World) : Prop where
  rg : Ranges encI wr b (w.heap.size + 1 + 1) es left
  bw : b < w.heap.size
  bl : Below w.heap.size w wr
  z0 : wr.heap[w.heap.size]? = some (.cells #[.int .i64 0, .int .i64 0, .int .i64 0] 156 (0, 0))
  u : wr.heap[w.heap.size + 1]? = some (.cells #[.int .i64 x, .int .i64 y, .int .i64 z] 156 (0, 0))
  ex : x = c + cpuS (onP nm (ps.take j))
  ey : y = m + memS (onP nm (ps.take j))
  ez : z = k + (onP nm (ps.take j)).length
theorem UsedI.skip {w : World} {nm : List UInt8} {b : Nat} {es left : List (Int × Value)} {c m k : Nat} {ps : List PlaceL} {j x y z : Nat} {wr : World} (h : UsedI w nm b es left c m k ps j x y z wr) (hj : j < ps.length) (hn : ¬ ps[j].node = nm) (o : Obj) : UsedI w nm b es left c m k ps (j + 1) x y z (wr.alloc o) := by
  have e := onP_snoc (nm := nm) hj
  rw [if_neg hn] at e
  exact ⟨h.rg.below encI (below_alloc' (Below.refl _ _) _), h.bw, below_alloc' h.bl _, old_al h.z0, old_al h.u, by rw [e]; exact h.ex, by rw [e]; exact h.ey, by rw [e]; exact h.ez⟩
theorem UsedI.add {w : World} {nm : List UInt8} {b : Nat} {es left : List (Int × Value)} {c m k : Nat} {ps : List PlaceL} {j x y z : Nat} {wr : World} (h : UsedI w nm b es left c m k ps j x y z wr) (hj : j < ps.length) (hn : ps[j].node = nm) (o : Obj) :
    UsedI w nm b es left c m k ps (j + 1) (x + ps[j].cpu) (y + ps[j].mem) (z + 1) ((((wr.alloc o).setCell ⟨w.heap.size + 1, 0, none⟩ (.int .i64 ((x : Int) + ps[j].cpu))).setCell ⟨w.heap.size + 1, 1, none⟩ (.int .i64 ((y : Int) + ps[j].mem))).setCell ⟨w.heap.size + 1, 2, none⟩ (.int .i64 ((z : Int) + 1))) := by
  have e := onP_snoc (nm := nm) hj
  rw [if_pos hn] at e
  have hg : Gb (w.heap.size + 1) wr ((((wr.alloc o).setCell ⟨w.heap.size + 1, 0, none⟩ (.int .i64 ((x : Int) + ps[j].cpu))).setCell ⟨w.heap.size + 1, 1, none⟩ (.int .i64 ((y : Int) + ps[j].mem))).setCell ⟨w.heap.size + 1, 2, none⟩ (.int .i64 ((z : Int) + 1))) :=
    (((Gb.of_below (below_alloc' (Below.refl _ _) o)).trans (Gb.set _ _ _ _)).trans (Gb.set _ _ _ _)).trans (Gb.set _ _ _ _)
  have hb := h.bw
  refine ⟨h.rg.gb encI hg (by omega) (by omega), h.bw, (((below_alloc' h.bl o).setCell (by simp) _).setCell (by simp) _).setCell (by simp) _, hg.block' h.z0 (by omega), ?_, ?_, ?_, ?_⟩
  · have := put3 (.int .i64 ((x : Int) + ps[j].cpu)) (.int .i64 ((y : Int) + ps[j].mem)) (.int .i64 ((z : Int) + 1)) (old_al (o := o) h.u)
    simpa using this
  · rw [e, cpuS_append, h.ex]; simp [cpuS]; omega
  · rw [e, memS_append, h.ey]; simp [memS]; omega
  · rw [e, List.length_append, h.ez]; simp; omega
theorem onP_le {nm : List UInt8} {ps : List PlaceL} {j : Nat} (hj : j < ps.length) (hn : ps[j].node = nm) : cpuS (onP nm (ps.take j)) + ps[j].cpu ≤ cpuS (onP nm ps) ∧ memS (onP nm (ps.take j)) + ps[j].mem ≤ memS (onP nm ps) ∧ (onP nm (ps.take j)).length + 1 ≤ (onP nm ps).length := by
  have e := onP_snoc (nm := nm) hj
  rw [if_pos hn] at e
  have hs : (onP nm (ps.take (j + 1))).Sublist (onP nm ps) := (List.take_sublist _ _).filter _
  have h1 := cpuS_sub hs
  have h2 := memS_sub hs
  have h3 := hs.length_le
  rw [e, cpuS_append] at h1
  rw [e, memS_append] at h2
  rw [e, List.length_append] at h3
  simp [cpuS, memS] at h1 h2 h3 ⊢
  omega
theorem sums_mid (nm : List UInt8) (m1 m2 : List (Int × List PlaceL)) (t : Int × List PlaceL) : cpuS (onP nm ((m1 ++ t :: m2).flatMap Prod.snd)) = cpuS (onP nm t.2) + cpuS (onP nm ((m1 ++ m2).flatMap Prod.snd)) ∧ memS (onP nm ((m1 ++ t :: m2).flatMap Prod.snd)) = memS (onP nm t.2) + memS (onP nm ((m1 ++ m2).flatMap Prod.snd)) ∧ (onP nm ((m1 ++ t :: m2).flatMap Prod.snd)).length = (onP nm t.2).length + (onP nm ((m1 ++ m2).flatMap Prod.snd)).length := by
  simp only [List.flatMap_append, List.flatMap_cons, onP_append, cpuS_append, memS_append, List.length_append]
  omega
set_option maxRecDepth 100000 in
set_option maxHeartbeats 2000000 in
theorem used_any (Q : Nat → Prop) (w : World) (l a b : Nat) (L : LedL) (h : LedAt Q w l a b L) (nm : List UInt8) (hok : L.ok) (hk : L.taken.length ≤ 1073741824) :
    Calls Tryz.prog 81 #[.pointer (some ⟨l, 0, none⟩), .string (str nm)] w fun e w' => e = .returned (.agg #[.int .i64 (L.cpu nm), .int .i64 (L.mem nm), .int .i64 (L.pods nm)]) ∧ Below w.heap.size w w' := by
  obtain ⟨es, hM, hA⟩ := h.taken
  have c1 := cell_of_block h.box 1 _ rfl
  have d1 : ∀ o o', ((w.alloc o).alloc o').cell? ⟨l, 1, none⟩ = some (.map (some b)) := fun o o' => cell_below c1 (below_alloc' (below_alloc' (Below.refl _ _) o) o')
  have HM := Lib.hid hM
  have HA := Lib.hid hA
  have HC := Lib.hid (show L.cpu nm ≤ 4611686018427387904 ∧ L.mem nm ≤ 4611686018427387904 ∧ L.pods nm ≤ 4611686018427387904 by
    have h1 := LedL.cpu_le hok nm
    have h2 := LedL.pods_le hok nm
    omega)
  have HOK := Lib.hid hok
  have hbw := hM.lt
  clear hM hA h hok hk c1
  go_enter Tryz.func81, Tryz.ntmps81
  go_wp2_with (at_range; refine list_range encI rfl _ _ rfl Tryz.underlying145 rfl (HM.out.below encI (below_alloc' (below_alloc' (Below.refl _ _) _) _)) ?_; intro obj hR)
  simp only [World.size_alloc] at hR ⊢
  have hU : UsedR Q w L nm b es es L.taken 0 0 0 (((w.alloc (.cells #[.int .i64 0, .int .i64 0, .int .i64 0] 156)).alloc (.cells #[.int .i64 0, .int .i64 0, .int .i64 0] 156)).alloc obj) :=
    ⟨hR, HA.out, below_alloc' (below_alloc' (below_alloc' (Below.refl _ _) _) _) _, old_al (old_al (alloc_at _ _)), old_al (alloc_second _ _ _), Nat.zero_add _, Nat.zero_add _, Nat.zero_add _, fun _ h => h⟩
  clear hR d1
  generalize World.alloc (World.alloc (World.alloc w _) _) obj = w1 at hU ⊢
  have HU := Lib.hid hU
  clear hU
  go_frame
  go_loopw [] (fun wr => ∃ left ts c m k, UsedR Q w L nm b es left ts c m k wr) (fun wr => wr.rangeLeft b (w.heap.size + 1 + 1))
  case atStart => exact ⟨_, _, _, _, _, HU.out⟩
  case round =>
    obtain ⟨left, ts, c, m, k, hU⟩ := hrel
    have HU := Lib.hid hU
    clear hU
    go_wp2_with (at_next; refine list_next encI rfl _ rfl rfl HU.out.rg ?_ ?_)
    · intro hl0
      subst hl0
      have hA := HU.out.all
      have hts : ts = [] := by cases hA; rfl
      subst hts
      have e1 := HU.out.sc
      have e2 := HU.out.sm
      have e3 := HU.out.sk
      simp only [List.flatMap_nil, onP, List.filter_nil, cpuS, memS, List.map_nil, List.sum_nil, List.length_nil, Nat.add_zero] at e1 e2 e3
      have E := Lib.hid (And.intro e1 (And.intro e2 e3))
      have k0 := cell_of_block HU.out.u 0 _ rfl
      have k1 := cell_of_block HU.out.u 1 _ rfl
      have k2 := cell_of_block HU.out.u 2 _ rfl
      have z0 := cell_of_block HU.out.z 0 _ rfl
      have z1 := cell_of_block HU.out.z 1 _ rfl
      have z2 := cell_of_block HU.out.z 2 _ rfl
      have zf := free_of_block HU.out.z
      clear hA e1 e2 e3
      go_wp2
      have hq := put3 (.int .i64 c) (.int .i64 m) (.int .i64 k) HU.out.z
      have hb := ((HU.out.bl.setCell (p := ⟨w.heap.size, 0, none⟩) (Nat.le_refl _) (.int .i64 c)).setCell (p := ⟨w.heap.size, 1, none⟩) (Nat.le_refl _) (.int .i64 m)).setCell (p := ⟨w.heap.size, 2, none⟩) (Nat.le_refl _) (.int .i64 k)
      generalize World.setCell (World.setCell (World.setCell wr _ _) _ _) _ _ = y at hq hb ⊢
      have q0 := cell_of_block hq 0 _ rfl
      have q1 := cell_of_block hq 1 _ rfl
      have q2 := cell_of_block hq 2 _ rfl
      refine bodyPost_ret (v := .agg #[.int .i64 c, .int .i64 m, .int .i64 k]) (by simp [results, Tryz.results81, go_sem, q0, q1, q2]) rfl ⟨?_, hb⟩
      rw [E.out.1, E.out.2.1, E.out.2.2]
    · intro l1 pk pv l2 w2 hl hR2 hg2 hs2 hen
      subst hl
      obtain ⟨m1, t, m2, rfl, A1, ⟨At, Ap⟩, A2⟩ := HU.out.all.split
      obtain ⟨pa, pc, hpv, hcs⟩ := flat_cells Ap
      simp only at hpv At hR2
      subst hpv
      have HCS := Lib.hid hcs
      have HAL := Lib.hid (And.intro A1 A2)
      have hrlt := HU.out.rg.lt.2.1
      have hb2 : Below w.heap.size w w2 := ⟨hg2.os.trans HU.out.bl.os, hg2.tape.trans HU.out.bl.tape, hg2.output.trans HU.out.bl.output, Nat.le_trans HU.out.bl.size hg2.size, fun g hg => (hg2.block g (Nat.lt_of_lt_of_le hg HU.out.bl.size) (by simp; omega)).trans (HU.out.bl.block g hg)⟩
      have hz2 : w2.heap[w.heap.size]? = some (.cells #[.int .i64 0, .int .i64 0, .int .i64 0] 156 (0, 0)) := (hg2.block _ (by omega) (by simp <;> omega)).trans HU.out.z
      have hu2 : w2.heap[w.heap.size + 1]? = some (.cells #[.int .i64 c, .int .i64 m, .int .i64 k] 156 (0, 0)) := (hg2.block _ (by omega) (by simp <;> omega)).trans HU.out.u
      have HR2 := Lib.hid hR2
      have H2 := Lib.hid (And.intro hb2 (And.intro hz2 hu2))
      clear hR2 hg2 hs2 A1 A2 Ap hcs hb2 hz2 hu2 hrlt
      have hI : UsedI w nm b es (l1 ++ l2) c m k t.2 0 c m k w2 := ⟨HR2.out, hbw, H2.out.1, H2.out.2.1, H2.out.2.2, by simp [onP, cpuS], by simp [onP, memS], by simp [onP]⟩
      have HI := Lib.hid hI
      have hsum := sums_mid nm m1 m2 t
      have hsc := HU.out.sc
      have hsm := HU.out.sm
      have hsk := HU.out.sk
      have hC := HC.out
      have HS := Lib.hid (show (c + cpuS (onP nm t.2) ≤ 4611686018427387904 ∧ m + memS (onP nm t.2) ≤ 4611686018427387904 ∧ k + (onP nm t.2).length ≤ 4611686018427387904) ∧ c + cpuS (onP nm t.2) + cpuS (onP nm ((m1 ++ m2).flatMap Prod.snd)) = L.cpu nm ∧ m + memS (onP nm t.2) + memS (onP nm ((m1 ++ m2).flatMap Prod.snd)) = L.mem nm ∧ k + (onP nm t.2).length + (onP nm ((m1 ++ m2).flatMap Prod.snd)).length = L.pods nm by omega)
      have HLF := Lib.hid (HU.out.rg.left_eq)
      have HSB := Lib.hid (fun (x : Int × List PlaceL) (hx : x ∈ m1 ++ m2) => HU.out.sub x (by rcases List.mem_append.1 hx with h | h; exact List.mem_append_left _ h; exact List.mem_append_right _ (List.mem_cons_of_mem _ h)))
      have hl8 : t.2.length ≤ 8 := (HOK.out.some t (HU.out.sub t (List.mem_append_right _ List.mem_cons_self))).2.1
      clear hI hsum hsc hsm hsk hC
      go_wp2_with fail
      go_loopw [21] (fun i wq => ∃ j x y z : Nat, i = .int .i64 j ∧ j ≤ t.2.length ∧ UsedI w nm b es (l1 ++ l2) c m k t.2 j x y z wq) (fun i _ => t.2.length - (intOf i).toNat)
      case atStart => exact ⟨0, _, _, _, rfl, Nat.zero_le _, HI.out⟩
      case round =>
        obtain ⟨j, x, y, z, rfl, hj, hI⟩ := hrel
        have HI := Lib.hid hI
        clear hI
        by_cases hlt : j < t.2.length
        · have HLT := Lib.hid hlt
          obtain ⟨bb, rfl, hbb, hpc, p0, p1, p2, p3, p4⟩ := HCS.out j hlt
          have q0 := cell_below p0 HI.out.bl
          have q1 := cell_below p1 HI.out.bl
          have q2 := cell_below p2 HI.out.bl
          have q3 := cell_below p3 HI.out.bl
          have q4 := cell_below p4 HI.out.bl
          have hj0 : (0 : Int) ≤ (j : Int) := by omega
          have hj1 : (j : Int) < (t.2.length : Int) := by omega
          have hadd := fun (h : t.2[j].node = nm) => HI.out.add hlt h
          have hskip := fun (h : ¬ t.2[j].node = nm) => HI.out.skip hlt h
          have hle := fun (h : t.2[j].node = nm) => onP_le hlt h
          have v0 : ∀ o, (wr.alloc o).cell? ⟨w.heap.size + 1, 0, none⟩ = some (.int .i64 x) := fun o => cell_of_block (old_al HI.out.u) 0 _ rfl
          have v1 : ∀ o, (wr.alloc o).cell? ⟨w.heap.size + 1, 1, none⟩ = some (.int .i64 y) := fun o => cell_of_block (old_al HI.out.u) 1 _ rfl
          have v2 : ∀ o, (wr.alloc o).cell? ⟨w.heap.size + 1, 2, none⟩ = some (.int .i64 z) := fun o => cell_of_block (old_al HI.out.u) 2 _ rfl
          have vf : ∀ o j, (wr.alloc o).frozen? ⟨w.heap.size + 1, j, none⟩ = false := fun o j => free_of_block (old_al HI.out.u) j
          generalize t.2[j] = p at q0 q1 q2 q3 q4 hadd hskip hle
          clear p0 p1 p2 p3 p4
          by_cases hn : p.node = nm
          · have hq : ((str p.node).toList == (str nm).toList) = true := by rw [hn]; simp
            have HA1 := Lib.hid (hadd hn)
            have hl := hle hn
            have ex := HI.out.ex
            have ey := HI.out.ey
            have ez := HI.out.ez
            have hS := HS.out.1
            have s0 : (x : Int) + p.cpu ≤ 4611686018427387904 := by omega
            have s1 : (y : Int) + p.mem ≤ 4611686018427387904 := by omega
            have s2 : (z : Int) + 1 ≤ 4611686018427387904 := by omega
            have s3 : (0 : Int) ≤ (x : Int) := by omega
            have s4 : (0 : Int) ≤ (y : Int) := by omega
            have s5 : (0 : Int) ≤ (z : Int) := by omega
            have s6 : (0 : Int) ≤ (p.cpu : Int) := by omega
            have s7 : (0 : Int) ≤ (p.mem : Int) := by omega
            clear hadd hskip hle hl ex ey ez hS hn
            go_wp2
            go_roundw
            case rel => exact ⟨j + 1, _, _, _, by go_num, HLT.out, HA1.out _⟩
            case measure => have := HLT.out; simp [intOf]; omega
          · have hq : ((str p.node).toList == (str nm).toList) = false := by
              rw [str_toList, str_toList]; simpa using hn
            have HA1 := Lib.hid (hskip hn)
            clear hadd hskip hle hn v0 v1 v2 vf
            go_wp2
            go_roundw
            case rel => exact ⟨j + 1, _, _, _, by go_num, HLT.out, HA1.out _⟩
            case measure => have := HLT.out; simp [intOf]; omega
        · obtain rfl : j = t.2.length := by omega
          have ex := HI.out.ex
          have ey := HI.out.ey
          have ez := HI.out.ez
          rw [List.take_length] at ex ey ez
          have hN : UsedR Q w L nm b es (l1 ++ l2) (m1 ++ m2) x y z wr := ⟨HI.out.rg, HAL.out.1.append HAL.out.2, HI.out.bl, HI.out.z0, HI.out.u, by rw [ex]; exact HS.out.2.1, by rw [ey]; exact HS.out.2.2.1, by rw [ez]; exact HS.out.2.2.2, HSB.out⟩
          have HN := Lib.hid hN
          clear ex ey ez hN
          go_wp2
          go_roundw
          case rel => exact ⟨_, _, _, _, _, HN.out⟩
          case measure => rw [HN.out.rg.left_eq, HLF.out]; simp
end Go.Proofs.YtofofjfmhaggmaaGreatDoor
