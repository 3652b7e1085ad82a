/- A ledger's maps: look-ups, entries set and struck, as steps of the model. -/
import Derived.Test.YtofofjfmhaggmaaGreatDoorVb
import Derived.KernelRfl
import Derived.Test.YtofofjfmhaggmaaGreatDoorVe
import Derived.Test.YtofofjfmhaggmaaGreatDoorPt
set_option linter.unusedVariables false
set_option linter.unusedSimpArgs false
namespace Go.Proofs.YtofofjfmhaggmaaGreatDoor
open Go.RowKit

theorem str_inj {a b : List UInt8} (h : str a = str b) : a = b := by
  have := congrArg ByteArray.toList h
  rwa [str_toList, str_toList] at this
theorem keyN {a b : List UInt8} : decide (str a = str b) = decide (a = b) := by
  by_cases h : a = b
  · simp [h]
  · have : str a ≠ str b := fun e => h (str_inj e)
    simp [h, this]
def zNode : Value := .agg #[.string ⟨#[]⟩, .int .i64 0, .int .i64 0, .slice none 0 0, .slice none 0 0, .bool false]
theorem zero_node (w : World) : (zeroValue 60).run Tryz.prog w = .ok zNode w := by kernel_rfl
theorem zero_places (w : World) : (zeroValue 46).run Tryz.prog w = .ok (.slice none 0 0) w := by kernel_rfl
section
variable {Q : Nat → Prop} {w : World} {l a b : Nat} {L : LedL}
/-- Setting an entry, row by row. -/
theorem All2.set {κ β : Type} [DecidableEq κ] {R : κ × Value → β → Prop} {es : List (κ × Value)} {m : List β} {x : κ} {v : Value} {y : β} {has : β → Bool} (h : All2 R es m) (hk : ∀ e t, R e t → decide (e.1 = x) = has t) (hv : R (x, v) y) :
    All2 R (setK es x v) (if m.any has then m.map (fun t => if has t then y else t) else m ++ [y]) := by
  have e : hasK es x = m.any has := h.any hk
  unfold setK
  rw [e]
  split
  · refine h.both fun a t hr => ?_
    have := hk a t hr
    by_cases hx : a.1 = x
    · rw [if_pos hx]
      rw [decide_eq_true hx] at this
      rw [if_pos this.symm]
      exact hv
    · rw [if_neg hx]
      rw [decide_eq_false hx] at this
      rw [if_neg (by rw [← this]; simp)]
      exact hr
  · exact h.append (.one hv)
theorem LedAt.look_nodeS (h : LedAt Q w l a b L) (nm : List UInt8) : ∃ v, (∀ w', w'.heap[a]? = w.heap[a]? → ∀ ok, (Instr.lookup 144 (.map (some a)) (.string (str nm)) ok).run Tryz.prog w' = .ok (if ok then .tuple #[v, .bool (hasN L.nodes nm)] else v) w') ∧ ((∃ n, getN L.nodes nm = some n ∧ NodeQ Q w v n) ∨ (getN L.nodes nm = none ∧ v = zNode)) := by
  obtain ⟨es, hM, hA⟩ := h.nodes
  have hh : hasK es (str nm) = hasN L.nodes nm := hA.any fun e n hn => by rw [hn.1]; exact keyN
  have hl := fun w' (hw : w'.heap[a]? = w.heap[a]?) ok => (hM.same encS hw).look encS (P := Tryz.prog) Tryz.underlying144 Tryz.underlying9 (zero_node w') (str nm) ok
  rw [hh] at hl
  refine ⟨_, hl, ?_⟩
  have hf := All2.find (p := fun (e : ByteArray × Value) => decide (e.1 = str nm)) (q := fun (n : NodeL) => decide (n.name = nm)) hA (fun e n hn => by rw [hn.1]; exact keyN)
  rcases hf with ⟨h1, h2⟩ | ⟨e, n, h1, h2, h3, _⟩
  · exact .inr ⟨h2, by unfold getK; rw [h1]; rfl⟩
  · exact .inl ⟨n, h2, by unfold getK; rw [h1]; exact h3.2⟩
theorem LedAt.look_takenS (h : LedAt Q w l a b L) (g : Int) : ∃ v, (∀ w', w'.heap[b]? = w.heap[b]? → (Instr.lookup 145 (.map (some b)) (.int .i64 g) false).run Tryz.prog w' = .ok v w') ∧ PlacesQ Q w v (L.get g) := by
  obtain ⟨es, hM, hA⟩ := h.taken
  have hl := fun w' (hw : w'.heap[b]? = w.heap[b]?) => (hM.same encI hw).look encI (P := Tryz.prog) Tryz.underlying145 Tryz.underlying3 (zero_places w') g false
  refine ⟨_, hl, ?_⟩
  unfold LedL.get
  have hf := All2.find (p := fun (e : Int × Value) => decide (e.1 = g)) (q := fun (t : Int × List PlaceL) => decide (t.1 = g)) hA (fun e n hn => by rw [hn.1])
  rcases hf with ⟨h1, h2⟩ | ⟨e, n, h1, h2, h3, _⟩
  · unfold getK
    rw [h1, h2]
    exact ⟨World.ownsRow_nil _ _ _ _, fun g hg => by cases hg⟩
  · unfold getK
    rw [h1, h2]
    exact h3.2
theorem LedAt.look_taken (h : LedAt Q w l a b L) (g : Int) : ∃ v, (Instr.lookup 145 (.map (some b)) (.int .i64 g) false).run Tryz.prog w = .ok v w ∧ PlacesQ Q w v (L.get g) := by
  obtain ⟨v, h1, h2⟩ := h.look_takenS g
  exact ⟨v, h1 w rfl, h2⟩
theorem LedAt.len_nodes (h : LedAt Q w l a b L) (ty : TypeId) : (Builtin.len_ #[144] ty #[.map (some a)]).run Tryz.prog w = .ok (.int .i64 L.nodes.length) w := by
  obtain ⟨es, hM, hA⟩ := h.nodes
  have := hM.len encS (P := Tryz.prog) (ty := ty) Tryz.underlying144
  rw [hA.len] at this
  exact this
theorem Turn.mod {b : Nat} {w w' : World} (h : Turn b w w') : Mod (fun g => g = b) w w' := Mod.of_turn h rfl
theorem LedAt.put_node (h : LedAt Q w l a b L) {n : NodeL} {v : Value} (hv : NodeQ Q w v n) : ∃ w', (Instr.mapUpdate 144 (.map (some a)) (.string (str n.name)) v).run Tryz.prog w = .ok () w' ∧ LedAt Q w' l a b { L with nodes := putN L.nodes n } ∧ Turn a w w' := by
  obtain ⟨h1, ⟨es, hM, hA⟩, ⟨fs, hM', hA'⟩, ne, qa, qb, ql⟩ := h
  obtain ⟨w', hr, hM2, hT⟩ := hM.put encS (P := Tryz.prog) Tryz.underlying144 Tryz.underlying9 (str n.name) v
  have hm := hT.mod
  have hS : ∀ g, g < w.heap.size → g = a → Q g := fun g _ e => e ▸ qa
  refine ⟨w', hr, ⟨hm.block' h1 fun e => ql (e ▸ qa), ⟨_, hM2, ?_⟩, ⟨fs, hM'.same _ (hT.block b (Ne.symm ne)), hA'.imp fun e t ht => ⟨ht.1, Rq.mod ht.2 hm hS⟩⟩, ne, qa, qb, ql⟩, hT⟩
  have hA2 : All2 (fun (e : ByteArray × Value) (m : NodeL) => e.1 = str m.name ∧ NodeQ Q w' e.2 m) es L.nodes := hA.imp fun e m hm' => ⟨hm'.1, hm'.2.mod hm hS⟩
  have := hA2.set (x := str n.name) (v := v) (y := n) (has := fun m => decide (m.name = n.name)) (fun e m hm' => by rw [hm'.1]; exact keyN) ⟨rfl, hv.mod hm hS⟩
  unfold putN hasN
  simpa using this
theorem LedAt.put_taken (h : LedAt Q w l a b L) {p : List PlaceL} {v : Value} (g : Int) (hv : PlacesQ Q w v p) : ∃ w', (Instr.mapUpdate 145 (.map (some b)) (.int .i64 g) v).run Tryz.prog w = .ok () w' ∧ LedAt Q w' l a b { L with taken := setK L.taken g p } ∧ Turn b w w' := by
  obtain ⟨h1, ⟨es, hM, hA⟩, ⟨fs, hM', hA'⟩, ne, qa, qb, ql⟩ := h
  obtain ⟨w', hr, hM2, hT⟩ := hM'.put encI (P := Tryz.prog) Tryz.underlying145 Tryz.underlying3 g v
  have hm := hT.mod
  have hS : ∀ g, g < w.heap.size → g = b → Q g := fun g _ e => e ▸ qb
  refine ⟨w', hr, ⟨hm.block' h1 fun e => ql (e ▸ qb), ⟨es, hM.same _ (hT.block a ne), hA.imp fun e n hn => ⟨hn.1, hn.2.mod hm hS⟩⟩, ⟨_, hM2, ?_⟩, ne, qa, qb, ql⟩, hT⟩
  have hA2 : All2 (fun (e : Int × Value) (t : Int × List PlaceL) => e.1 = t.1 ∧ PlacesQ Q w' e.2 t.2) fs L.taken := hA'.imp fun e m hm' => ⟨hm'.1, Rq.mod hm'.2 hm hS⟩
  have := hA2.set (x := g) (v := v) (y := (g, p)) (has := fun t => decide (t.1 = g)) (fun e m hm' => by rw [hm'.1]) ⟨rfl, Rq.mod hv hm hS⟩
  have e2 : setK L.taken g p = (if L.taken.any (fun t => decide (t.1 = g)) then L.taken.map (fun t => if decide (t.1 = g) then (g, p) else t) else L.taken ++ [(g, p)]) := by
    unfold setK hasK
    simp
  show All2 _ _ (setK L.taken g p)
  rw [e2]
  exact this
theorem LedAt.del_taken (h : LedAt Q w l a b L) (g : Int) (ty : TypeId) : ∃ w', (Builtin.delete_ #[145, 3] ty #[.map (some b), .int .i64 g]).run Tryz.prog w = .ok (.tuple #[]) w' ∧ LedAt Q w' l a b { L with taken := delK L.taken g } ∧ Turn b w w' := by
  obtain ⟨h1, ⟨es, hM, hA⟩, ⟨fs, hM', hA'⟩, ne, qa, qb, ql⟩ := h
  obtain ⟨w', hr, hM2, hT⟩ := hM'.del encI (P := Tryz.prog) (ty := ty) Tryz.underlying145 Tryz.underlying3 g
  have hm := hT.mod
  have hS : ∀ g, g < w.heap.size → g = b → Q g := fun g _ e => e ▸ qb
  exact ⟨w', hr, ⟨hm.block' h1 fun e => ql (e ▸ qb), ⟨es, hM.same _ (hT.block a ne), hA.imp fun e n hn => ⟨hn.1, hn.2.mod hm hS⟩⟩, ⟨_, hM2, (hA'.imp (S := fun (e : Int × Value) (t : Int × List PlaceL) => e.1 = t.1 ∧ PlacesQ Q w' e.2 t.2) fun e m hm' => ⟨hm'.1, Rq.mod hm'.2 hm hS⟩).filt fun e t ht => by rw [ht.1]⟩, ne, qa, qb, ql⟩, hT⟩
theorem LedAt.del_node (h : LedAt Q w l a b L) (nm : List UInt8) (ty : TypeId) : ∃ w', (Builtin.delete_ #[144, 9] ty #[.map (some a), .string (str nm)]).run Tryz.prog w = .ok (.tuple #[]) w' ∧ LedAt Q w' l a b { L with nodes := delN L.nodes nm } ∧ Turn a w w' := by
  obtain ⟨h1, ⟨es, hM, hA⟩, ⟨fs, hM', hA'⟩, ne, qa, qb, ql⟩ := h
  obtain ⟨w', hr, hM2, hT⟩ := hM.del encS (P := Tryz.prog) (ty := ty) Tryz.underlying144 Tryz.underlying9 (str nm)
  have hm := hT.mod
  have hS : ∀ g, g < w.heap.size → g = a → Q g := fun g _ e => e ▸ qa
  refine ⟨w', hr, ⟨hm.block' h1 fun e => ql (e ▸ qa), ⟨_, hM2, (hA.imp (S := fun (e : ByteArray × Value) (m : NodeL) => e.1 = str m.name ∧ NodeQ Q w' e.2 m) fun e m hm' => ⟨hm'.1, hm'.2.mod hm hS⟩).filt (p := fun (e : ByteArray × Value) => decide (e.1 ≠ str nm)) (q := fun (n : NodeL) => decide (n.name ≠ nm)) fun e t ht => ?_⟩, ⟨fs, hM'.same _ (hT.block b (Ne.symm ne)), hA'.imp fun e t ht => ⟨ht.1, Rq.mod ht.2 hm hS⟩⟩, ne, qa, qb, ql⟩, hT⟩
  rw [ht.1]
  have := keyN (a := t.name) (b := nm)
  simpa using this
end
end Go.Proofs.YtofofjfmhaggmaaGreatDoor
/-! A ledger's own functions, by the program. -/
set_option linter.unusedVariables false
set_option linter.unusedSimpArgs false
namespace Go.Proofs.YtofofjfmhaggmaaGreatDoor
open Go.RowKit

theorem put6_2 {w : World} {g : Nat} {T : TypeId} {a b c d e f : Value} (x : Value) (h : w.heap[g]? = some (.cells #[a, b, c, d, e, f] T (0, 0))) : (w.setCell ⟨g, 3, none⟩ x).heap[g]? = some (.cells #[a, b, c, x, e, f] T (0, 0)) := by
  rw [heap_setCell_same w g 3 _ T x h]; rfl
theorem put6_3 {w : World} {g : Nat} {T : TypeId} {a b c d e f : Value} (x : Value) (h : w.heap[g]? = some (.cells #[a, b, c, d, e, f] T (0, 0))) : (w.setCell ⟨g, 4, none⟩ x).heap[g]? = some (.cells #[a, b, c, d, x, f] T (0, 0)) := by
  rw [heap_setCell_same w g 4 _ T x h]; rfl
theorem put6 {w : World} {g : Nat} {T : TypeId} {a b c d e f : Value} (x0 x1 x2 x3 x4 x5 : Value) (h : w.heap[g]? = some (.cells #[a, b, c, d, e, f] T (0, 0))) :
    ((((((w.setCell ⟨g, 0, none⟩ x0).setCell ⟨g, 1, none⟩ x1).setCell ⟨g, 2, none⟩ x2).setCell ⟨g, 3, none⟩ x3).setCell ⟨g, 4, none⟩ x4).setCell ⟨g, 5, none⟩ x5).heap[g]? = some (.cells #[x0, x1, x2, x3, x4, x5] T (0, 0)) ∧
    Gb g w ((((((w.setCell ⟨g, 0, none⟩ x0).setCell ⟨g, 1, none⟩ x1).setCell ⟨g, 2, none⟩ x2).setCell ⟨g, 3, none⟩ x3).setCell ⟨g, 4, none⟩ x4).setCell ⟨g, 5, none⟩ x5) := by
  refine ⟨?_, (((((Gb.set _ _ _ _).trans (Gb.set _ _ _ _)).trans (Gb.set _ _ _ _)).trans (Gb.set _ _ _ _)).trans (Gb.set _ _ _ _)).trans (Gb.set _ _ _ _)⟩
  have h1 := setAt (ds := #[x0, b, c, d, e, f]) (j := 0) (v := x0) h (by simp)
  have h2 := setAt (ds := #[x0, x1, c, d, e, f]) (j := 1) (v := x1) h1 (by simp)
  have h3 := setAt (ds := #[x0, x1, x2, d, e, f]) (j := 2) (v := x2) h2 (by simp)
  have h4 := setAt (ds := #[x0, x1, x2, x3, e, f]) (j := 3) (v := x3) h3 (by simp)
  have h5 := setAt (ds := #[x0, x1, x2, x3, x4, f]) (j := 4) (v := x4) h4 (by simp)
  exact setAt (ds := #[x0, x1, x2, x3, x4, x5]) (j := 5) (v := x5) h5 (by simp)
theorem own_gx {w w' : World} {base n size g : Nat} {e : TypeId} {v : Value} {xs : List Value} (h : w.ownsRow base e size v n xs) (k : Gb g w w') (hg : g < base) : w'.ownsRow base e size v n xs := by
  refine h.kept (row := some g) k ?_
  by_cases hv : v.ownBlock = some g
  · have := (own_lt h hv).1
    omega
  · exact .inr hv
set_option maxRecDepth 100000 in
set_option maxHeartbeats 2000000 in
theorem lown_any (Q : Nat → Prop) (w : World) (v : Value) (n : NodeL) (h : NodeQ Q w v n) (hf : n.few) (hQ : ∀ g, Q g → g < w.heap.size) :
    Calls Tryz.prog 82 #[v] w fun e w' => ∃ v', e = .returned v' ∧ NodeQ Q w' v' n ∧ Below w.heap.size w w' := by
  obtain ⟨u, x, rfl, hu, hx⟩ := h
  have HU := Lib.hid hu
  have HX := Lib.hid hx
  have HN := Lib.hid (And.intro hf.2.1.1 hf.2.2.1.1)
  have HQ := Lib.hid hQ
  obtain ⟨au, lu, cu, rfl⟩ := own_slice hu.1
  obtain ⟨ax, lx, cx, rfl⟩ := own_slice hx.1
  obtain ⟨nm, hnm⟩ : ∃ y, str n.name = y := ⟨_, rfl⟩
  have HNM := Lib.hid hnm
  rw [hnm]
  clear hu hx hf hQ hnm
  go_enter Tryz.func82, Tryz.ntmps82
  go_upto_region 1 with fail
  have hb0 : Below w.heap.size w ((w.alloc (.cells #[.string nm, .int .i64 n.cpu, .int .i64 n.mem, .slice au lu cu, .slice ax lx cx, .bool n.closed] 60)).alloc (.cells #[.string ⟨#[]⟩, .int .i64 0, .int .i64 0, .slice none 0 0, .slice none 0 0, .bool false] 60)) := below_alloc' (below_alloc' (Below.refl _ _) _) _
  have z0 := old_al (o := .cells #[.string ⟨#[]⟩, .int .i64 0, .int .i64 0, .slice none 0 0, .slice none 0 0, .bool false] 60) (alloc_at w (.cells #[.string nm, .int .i64 n.cpu, .int .i64 n.mem, .slice au lu cu, .slice ax lx cx, .bool n.closed] 60))
  have z1 := alloc_second w (.cells #[.string nm, .int .i64 n.cpu, .int .i64 n.mem, .slice au lu cu, .slice ax lx cx, .bool n.closed] 60) (.cells #[.string ⟨#[]⟩, .int .i64 0, .int .i64 0, .slice none 0 0, .slice none 0 0, .bool false] 60)
  have hsz : ∀ o o', ((w.alloc o).alloc o').heap.size = w.heap.size + 1 + 1 := by intro o o'; simp
  have HSZ := Lib.hid (hsz (.cells #[.string nm, .int .i64 n.cpu, .int .i64 n.mem, .slice au lu cu, .slice ax lx cx, .bool n.closed] 60) (.cells #[.string ⟨#[]⟩, .int .i64 0, .int .i64 0, .slice none 0 0, .slice none 0 0, .bool false] 60))
  clear hsz
  generalize World.alloc (World.alloc w _) _ = w1 at hb0 z0 z1 HSZ ⊢
  have hfacts : ∀ w6, Below w1.heap.size w1.drew w6 → w6.cell? ⟨w.heap.size, 3, none⟩ = some (.slice au lu cu) ∧ w6.cell? ⟨w.heap.size, 4, none⟩ = some (.slice ax lx cx) ∧ StrsQ Q w6 (.slice au lu cu) n.marks ∧ StrsQ Q w6 (.slice ax lx cx) n.taints := fun w6 hb => by
    have hb' : Below w1.heap.size w1 w6 := (Below.refl w1.heap.size w1).drew.trans hb
    have k := block_below z0 hb'
    have kb := below_call hb0 hb'
    exact ⟨cell_of_block k 3 _ rfl, cell_of_block k 4 _ rfl, HU.out.below kb, HX.out.below kb⟩
  have HF := Lib.hid hfacts
  have H1 := Lib.hid (And.intro hb0 (And.intro z0 z1))
  clear hfacts hb0 z0 z1
  refine' Par.wp_region_pars (fun w w' => Below w.heap.size w w') 7 (by kernel_rfl) (by kernel_rfl) (by kernel_rfl) (by kernel_rfl) (by kernel_rfl) (by kernel_rfl)
    (fun w => Below.refl _ w) (fun h k => below_call h k) (fun vals => ?_)
  rotate_left
  simp only [List.take_succ_cons, List.take_zero, List.drop_succ_cons, List.drop_zero]
  (apply Par.par_x rfl; (focus (intro w6 hR hD K hK; replace hK := Lib.hid hK; skip; clear hR hD; go_simp; exact hK.out _ (Below.refl _ _))); simp only [Act.put, List.setIfInBounds_toArray, List.set_cons_zero, List.set_cons_succ, Nat.reduceAdd, List.cons_append, List.nil_append])
  (apply Par.par_x rfl; (focus (intro w6 hR hD K hK; replace hK := Lib.hid hK; obtain ⟨e0, e1, _⟩ := HF.out w6 hR; clear hR hD; go_simp; exact hK.out _ (Below.refl _ _))); simp only [Act.put, List.setIfInBounds_toArray, List.set_cons_zero, List.set_cons_succ, Nat.reduceAdd, List.cons_append, List.nil_append])
  (apply Par.par_r (fun v w' => w'.ownsRow w1.heap.size 9 1 v n.marks.length (n.marks.map fun x => .string (str x))) rfl (fun v w1 w2 h k => own_below h k); (focus (intro w6 hR hD K hK; replace hK := Lib.hid hK; obtain ⟨e0, e1, e2, e3⟩ := HF.out w6 hR; have hs := Lib.hid (hR : Below w1.heap.size w1.drew w6).size; have E2 := Lib.hid e2; clear hR hD e0 e1 e2 e3; go_simp; refine (clone_strs w6 _ _ 0 _ E2.out.1 (by simp [Value.oneCell']) (by have := HN.out.1; omega)).mono ?_; rintro e w7 ⟨v', rfl, ho, hb⟩; exact hK.out _ _ hb (own_base ho hs.out))); simp only [Act.put, List.setIfInBounds_toArray, List.set_cons_zero, List.set_cons_succ, Nat.reduceAdd, List.cons_append, List.nil_append])
  (apply Par.par_x rfl; (focus (intro w6 hR hD K hK; replace hK := Lib.hid hK; skip; clear hR hD; go_simp; exact hK.out _ (Below.refl _ _))); simp only [Act.put, List.setIfInBounds_toArray, List.set_cons_zero, List.set_cons_succ, Nat.reduceAdd, List.cons_append, List.nil_append])
  (apply Par.par_x rfl; (focus (intro w6 hR hD K hK; replace hK := Lib.hid hK; obtain ⟨e0, e1, _⟩ := HF.out w6 hR; clear hR hD; go_simp; exact hK.out _ (Below.refl _ _))); simp only [Act.put, List.setIfInBounds_toArray, List.set_cons_zero, List.set_cons_succ, Nat.reduceAdd, List.cons_append, List.nil_append])
  (apply Par.par_r (fun v w' => w'.ownsRow w1.heap.size 9 1 v n.taints.length (n.taints.map fun x => .string (str x))) rfl (fun v w1 w2 h k => own_below h k); (focus (intro w6 hR hD K hK; replace hK := Lib.hid hK; obtain ⟨e0, e1, e2, e3⟩ := HF.out w6 hR; have hs := Lib.hid (hR : Below w1.heap.size w1.drew w6).size; have E3 := Lib.hid e3; clear hR hD e0 e1 e2 e3; go_simp; refine (clone_strs w6 _ _ 0 _ E3.out.1 (by simp [Value.oneCell']) (by have := HN.out.2; omega)).mono ?_; rintro e w7 ⟨v', rfl, ho, hb⟩; exact hK.out _ _ hb (own_base ho hs.out))); simp only [Act.put, List.setIfInBounds_toArray, List.set_cons_zero, List.set_cons_succ, Nat.reduceAdd, List.cons_append, List.nil_append])
  (apply Par.par_x rfl; (focus (intro w6 hR hD K hK; replace hK := Lib.hid hK; skip; clear hR hD; go_simp; exact hK.out _ (Below.refl _ _))); simp only [Act.put, List.setIfInBounds_toArray, List.set_cons_zero, List.set_cons_succ, Nat.reduceAdd, List.cons_append, List.nil_append])
  refine Par.par_end fun w6 hR hp => ?_
  have ho2 : w6.ownsRow w1.heap.size 9 1 (vals 2) n.marks.length (n.marks.map fun x => .string (str x)) := hp 2 (by simp)
  have ho5 : w6.ownsRow w1.heap.size 9 1 (vals 5) n.taints.length (n.taints.map fun x => .string (str x)) := hp 5 (by simp)
  have hb' : Below w1.heap.size w1 w6 := (Below.refl w1.heap.size w1).drew.trans hR
  have z0 := block_below H1.out.2.1 hb'
  have z1 := block_below H1.out.2.2 hb'
  have hb6 := below_call H1.out.1 hb'
  obtain ⟨a2, c2, e2⟩ := own_slicen ho2
  obtain ⟨a5, c5, e5⟩ := own_slicen ho5
  rw [e2] at ho2
  rw [e5] at ho5
  simp only [e2, e5]
  have O2 := Lib.hid ho2
  have O5 := Lib.hid ho5
  have Z1 := Lib.hid z1
  have B6 := Lib.hid hb6
  have k0 := cell_of_block z0 0 _ rfl
  have k1 := cell_of_block z0 1 _ rfl
  have k2 := cell_of_block z0 2 _ rfl
  have k3 := cell_of_block z0 3 _ rfl
  have k4 := cell_of_block z0 4 _ rfl
  have k5 := cell_of_block z0 5 _ rfl
  have kf := free_of_block z0
  have j0 := cell_of_block z1 0 _ rfl
  have j1 := cell_of_block z1 1 _ rfl
  have j2 := cell_of_block z1 2 _ rfl
  have j3 := cell_of_block z1 3 _ rfl
  have j4 := cell_of_block z1 4 _ rfl
  have j5 := cell_of_block z1 5 _ rfl
  have jf := free_of_block z1
  have Z0 := Lib.hid z0
  clear hp hR hb' e2 e5 ho2 ho5 z0 z1 hb6
  go_upto_region 2 with fail
  have y0 := put6_3 (.slice a5 n.taints.length c5) (put6_2 (.slice a2 n.marks.length c2) Z0.out)
  have y1 := far_set (j := 4) (.slice a5 n.taints.length c5) (far_set (j := 3) (.slice a2 n.marks.length c2) Z1.out (show w.heap.size + 1 ≠ w.heap.size by omega)) (show w.heap.size + 1 ≠ w.heap.size by omega)
  have yb := (B6.out.setCell (p := ⟨w.heap.size, 3, none⟩) (Nat.le_refl _) (.slice a2 n.marks.length c2)).setCell (p := ⟨w.heap.size, 4, none⟩) (Nat.le_refl _) (.slice a5 n.taints.length c5)
  have y2 := own_set' (own_set' O2.out Z0.out (by decide) (.slice a2 n.marks.length c2) (j := 3)) (put6_2 (.slice a2 n.marks.length c2) Z0.out) (by decide) (.slice a5 n.taints.length c5) (j := 4)
  have y5 := own_set' (own_set' O5.out Z0.out (by decide) (.slice a2 n.marks.length c2) (j := 3)) (put6_2 (.slice a2 n.marks.length c2) Z0.out) (by decide) (.slice a5 n.taints.length c5) (j := 4)
  clear k0 k1 k2 k3 k4 k5 kf j0 j1 j2 j3 j4 j5 jf
  generalize World.setCell (World.setCell w6 _ _) _ _ = w7 at y0 y1 yb y2 y5 ⊢
  have k0 := cell_of_block y0 0 _ rfl
  have k1 := cell_of_block y0 1 _ rfl
  have k2 := cell_of_block y0 2 _ rfl
  have k3 := cell_of_block y0 3 _ rfl
  have k4 := cell_of_block y0 4 _ rfl
  have k5 := cell_of_block y0 5 _ rfl
  have j0 := cell_of_block y1 0 _ rfl
  have j1 := cell_of_block y1 1 _ rfl
  have j2 := cell_of_block y1 2 _ rfl
  have j3 := cell_of_block y1 3 _ rfl
  have j4 := cell_of_block y1 4 _ rfl
  have j5 := cell_of_block y1 5 _ rfl
  have jf := free_of_block y1
  have Y := Lib.hid (And.intro y0 (And.intro y1 (And.intro yb (And.intro y2 y5))))
  clear y0 y1 yb y2 y5
  go_wp2
  obtain ⟨q, kg⟩ := put6 (.string nm) (.int .i64 n.cpu) (.int .i64 n.mem) (.slice a2 n.marks.length c2) (.slice a5 n.taints.length c5) (.bool n.closed) Y.out.2.1
  have yb := Gb.below Y.out.2.2.1 kg (Nat.le_succ _) Y.out.2.2.1.size
  have y2 := own_gx Y.out.2.2.2.1 kg (by have := HSZ.out; omega)
  have y5 := own_gx Y.out.2.2.2.2 kg (by have := HSZ.out; omega)
  clear k0 k1 k2 k3 k4 k5 j0 j1 j2 j3 j4 j5 jf
  generalize World.setCell (World.setCell (World.setCell (World.setCell (World.setCell (World.setCell w7 _ _) _ _) _ _) _ _) _ _) _ _ = w8 at q kg yb y2 y5 ⊢
  have q0 := cell_of_block q 0 _ rfl
  have q1 := cell_of_block q 1 _ rfl
  have q2 := cell_of_block q 2 _ rfl
  have q3 := cell_of_block q 3 _ rfl
  have q4 := cell_of_block q 4 _ rfl
  have q5 := cell_of_block q 5 _ rfl
  have hQ1 : ∀ g, Q g → g < w1.heap.size := fun g hg => by have := HQ.out g hg; have := HSZ.out; omega
  refine bodyPost_ret (v := .agg #[.string nm, .int .i64 n.cpu, .int .i64 n.mem, .slice a2 n.marks.length c2, .slice a5 n.taints.length c5, .bool n.closed]) (by simp [results, Tryz.results82, go_sem, q0, q1, q2, q3, q4, q5]) rfl ⟨_, rfl, ⟨_, _, by rw [HNM.out], Rq.new y2 hQ1, Rq.new y5 hQ1⟩, yb⟩
end Go.Proofs.YtofofjfmhaggmaaGreatDoor
