/- Maps as rows of keys and values in the order in which they were laid: the raw laws of look-up, update, delete, len. -/
import Derived.Maps.RangeWalk
import Derived.Test.YtofofjfmhaggmaaGreatDoorPt
set_option linter.unusedVariables false
set_option linter.unusedSimpArgs false
namespace Go.Proofs.YtofofjfmhaggmaaGreatDoor
open Go.RowKit
open Go.ChangeMaps (setBlock)
open MapKept

/-- What keys of a kind are as values. -/
structure Enc (d : TypeDesc) (κ : Type) where
  f : κ → Value
  inj : ∀ {a b}, f a = f b → a = b
  key : ∀ a, IsKey d (f a)
def encI : Enc (.int .i64) Int := ⟨fun n => .int .i64 n, fun h => by injection h, fun _ => rfl⟩
def encS : Enc .string ByteArray := ⟨fun s => .string s, fun h => by injection h, fun _ => trivial⟩
section
variable {d : TypeDesc} {κ : Type} (c : Enc d κ)
def getK [DecidableEq κ] {α : Type} (es : List (κ × α)) (k : κ) : Option α := (es.find? fun p => decide (p.1 = k)).map Prod.snd
def hasK [DecidableEq κ] {α : Type} (es : List (κ × α)) (k : κ) : Bool := es.any fun p => decide (p.1 = k)
def setK [DecidableEq κ] {α : Type} (es : List (κ × α)) (k : κ) (v : α) : List (κ × α) := if hasK es k then es.map (fun p => if p.1 = k then (k, v) else p) else es ++ [(k, v)]
def delK [DecidableEq κ] {α : Type} (es : List (κ × α)) (k : κ) : List (κ × α) := es.filter fun p => decide (p.1 ≠ k)
/-- Block b is a map with just these entries, in this order. -/
def MapIs (w : World) (b : Nat) (es : List (κ × Value)) : Prop :=
  ∃ (E : Array MapEntry) (clock : Nat), w.heap[b]? = some (.map E clock) ∧ E.toList.map (fun e => (e.key, e.val)) = es.map (fun p => (c.f p.1, p.2)) ∧ Stamped E clock
theorem MapIs.lt {w : World} {b : Nat} {es : List (κ × Value)} (h : MapIs c w b es) : b < w.heap.size := by
  obtain ⟨E, cl, h, _⟩ := h
  exact (Array.getElem?_eq_some_iff.1 h).1
theorem MapIs.same {w w' : World} {b : Nat} {es : List (κ × Value)} (h : MapIs c w b es) (hs : w'.heap[b]? = w.heap[b]?) : MapIs c w' b es := by
  obtain ⟨E, cl, h1, h2⟩ := h
  exact ⟨E, cl, hs.trans h1, h2⟩
theorem MapIs.below {w w' : World} {b : Nat} {es : List (κ × Value)} (h : MapIs c w b es) (hb : Below w.heap.size w w') : MapIs c w' b es := h.same c (hb.block b (h.lt c))
theorem MapIs.new (w : World) : MapIs c (w.alloc (.map #[] 0)) w.heap.size [] := ⟨#[], 0, alloc_at _ _, rfl, stamped_empty 0⟩
theorem MapIs.nodup {w : World} {b : Nat} {es : List (κ × Value)} (h : MapIs c w b es) : (es.map Prod.fst).Nodup := by
  obtain ⟨E, cl, _, h2, _, _, h3⟩ := h
  have e : E.toList.map (·.key) = es.map (fun p => c.f p.1) := by
    have := congrArg (List.map Prod.fst) h2
    simpa [Function.comp_def] using this
  rw [e] at h3
  have : (es.map fun p => c.f p.1) = (es.map Prod.fst).map c.f := by simp [Function.comp_def]
  rw [this] at h3
  rw [List.Nodup, List.pairwise_map] at h3
  exact h3.imp fun h e => h (by rw [e])
theorem MapIs.isKey {E : Array MapEntry} {es : List (κ × Value)} (h : E.toList.map (fun e => (e.key, e.val)) = es.map (fun p => (c.f p.1, p.2))) : ∀ x ∈ E.toList, IsKey d x.key := fun x hx => by
  have : (x.key, x.val) ∈ E.toList.map (fun e => (e.key, e.val)) := List.mem_map_of_mem hx
  rw [h] at this
  obtain ⟨p, _, e⟩ := List.mem_map.1 this
  have e1 : c.f p.1 = x.key := congrArg Prod.fst e
  rw [← e1]
  exact c.key _
section
variable [DecidableEq κ]
theorem getK_none {α : Type} {es : List (κ × α)} {k : κ} (h : ∀ p ∈ es, p.1 ≠ k) : getK es k = none := by
  unfold getK
  rw [List.find?_eq_none.2 (fun p hp => by simpa using h p hp)]
  rfl
theorem getK_some {α : Type} {es : List (κ × α)} (hn : (es.map Prod.fst).Nodup) {p : κ × α} (hp : p ∈ es) : getK es p.1 = some p.2 := by
  unfold getK
  induction es with
  | nil => cases hp
  | cons q es ih =>
    simp only [List.map_cons, List.nodup_cons] at hn
    rcases List.mem_cons.1 hp with rfl | hp
    · simp
    · have : q.1 ≠ p.1 := fun e => hn.1 (e ▸ List.mem_map_of_mem hp)
      rw [List.find?_cons_of_neg (by simpa using this)]
      exact ih hn.2 hp
theorem hasK_get {α : Type} {es : List (κ × α)} {k : κ} : hasK es k = (getK es k).isSome := by
  unfold hasK getK
  rw [Option.isSome_map, List.isSome_find?]
end
theorem map_at {E : Array MapEntry} {es : List (κ × Value)} (h : E.toList.map (fun e => (e.key, e.val)) = es.map (fun p => (c.f p.1, p.2))) {j : Nat} {e : MapEntry} (he : E.toList[j]? = some e) :
    ∃ p, es[j]? = some p ∧ c.f p.1 = e.key ∧ p.2 = e.val := by
  have h1 : (E.toList.map (fun e => (e.key, e.val)))[j]? = some (e.key, e.val) := by rw [List.getElem?_map, he]; rfl
  rw [h, List.getElem?_map] at h1
  cases hp : es[j]? with
  | none => rw [hp] at h1; cases h1
  | some p =>
    rw [hp] at h1
    injection h1 with h1
    exact ⟨p, rfl, congrArg Prod.fst h1, congrArg Prod.snd h1⟩
variable [DecidableEq κ]
/-- 'm[k]', 'v, ok := m[k]'. -/
theorem MapIs.look {P : Program} {t k e : TypeId} (ht : P.underlying t = some (.map k e)) (hk : P.underlying k = some d) {w : World} {b : Nat} {es : List (κ × Value)} (h : MapIs c w b es) {z : Value} (hz : (zeroValue e).run P w = .ok z w) (x : κ) (ok : Bool) :
    (Instr.lookup t (.map (some b)) (c.f x) ok).run P w = .ok (if ok then .tuple #[(getK es x).getD z, .bool (hasK es x)] else (getK es x).getD z) w := by
  have hn := h.nodup c
  obtain ⟨E, cl, hb, he, hs⟩ := h
  rcases findNow_spec (c.key x) E.toList 0 (MapIs.isKey c he) with ⟨h1, h2⟩ | ⟨j, e0, h1, h2, h3⟩
  · have hg : getK es x = none := getK_none fun p hp hpx => by
      have : (c.f p.1, p.2) ∈ es.map (fun p => (c.f p.1, p.2)) := List.mem_map_of_mem hp
      rw [← he] at this
      obtain ⟨y, hy, ey⟩ := List.mem_map.1 this
      exact h2 y hy (by rw [← hpx]; exact congrArg Prod.fst ey)
    rw [hasK_get, hg]
    simp [Instr.lookup, run_underlying ht, MapKept.run_getObj_map hb, run_checkKey hk (c.key x) _ 9999, run_findKey hk h1, hz, Result.andThen]
  · obtain ⟨p, hp, p1, p2⟩ := map_at c he h2
    have hpm := List.mem_of_getElem? hp
    have hx : p.1 = x := c.inj (p1.trans h3)
    have hg : getK es x = some e0.val := by rw [← hx, getK_some hn hpm, p2]
    rw [hasK_get, hg]
    simp [Instr.lookup, run_underlying ht, MapKept.run_getObj_map hb, run_checkKey hk (c.key x) _ 9999, run_findKey hk h1, Result.andThen]
theorem size_setBlock (w : World) (b : Nat) (o : Obj) : (setBlock w b o).heap.size = w.heap.size := by simp [setBlock]
theorem setBlock_same {w : World} {b : Nat} (h : b < w.heap.size) (o : Obj) : (setBlock w b o).heap[b]? = some o := by simp [setBlock, h]
theorem setBlock_far (w : World) {b g : Nat} (h : g ≠ b) (o : Obj) : (setBlock w b o).heap[g]? = w.heap[g]? := by
  show (w.heap.setIfInBounds b o)[g]? = _
  rw [Array.getElem?_setIfInBounds_ne (Ne.symm h)]
/-- Nothing but block b has turned, and nothing was laid. -/
structure Turn (b : Nat) (w w' : World) : Prop where
  os : w'.os = w.os
  tape : w'.tape = w.tape
  output : w'.output = w.output
  size : w'.heap.size = w.heap.size
  block : ∀ g, g ≠ b → w'.heap[g]? = w.heap[g]?
theorem turn_setBlock (w : World) (b : Nat) (o : Obj) : Turn b w (setBlock w b o) := ⟨rfl, rfl, rfl, size_setBlock _ _ _, fun g h => setBlock_far w h o⟩
/-- 'm[k] = v'. -/
theorem MapIs.put {P : Program} {t k e : TypeId} (ht : P.underlying t = some (.map k e)) (hk : P.underlying k = some d) {w : World} {b : Nat} {es : List (κ × Value)} (h : MapIs c w b es) (x : κ) (v : Value) :
    ∃ w', (Instr.mapUpdate t (.map (some b)) (c.f x) v).run P w = .ok () w' ∧ MapIs c w' b (setK es x v) ∧ Turn b w w' := by
  have hn := h.nodup c
  obtain ⟨E, cl, hb, he, hs⟩ := h
  have hbl := (Array.getElem?_eq_some_iff.1 hb).1
  rcases findNow_spec (c.key x) E.toList 0 (MapIs.isKey c he) with ⟨h1, h2⟩ | ⟨j, e0, h1, h2, h3⟩
  · have hg : getK es x = none := getK_none fun p hp hpx => by
      have : (c.f p.1, p.2) ∈ es.map (fun p => (c.f p.1, p.2)) := List.mem_map_of_mem hp
      rw [← he] at this
      obtain ⟨y, hy, ey⟩ := List.mem_map.1 this
      exact h2 y hy (by rw [← hpx]; exact congrArg Prod.fst ey)
    have hne : hasK es x = false := by rw [hasK_get, hg]; rfl
    refine ⟨setBlock w b (.map (E.push ⟨c.f x, v, cl⟩) (cl + 1)), ?_, ⟨_, _, setBlock_same hbl _, ?_, stamped_push hs h2⟩, turn_setBlock _ _ _⟩
    · simp [Instr.mapUpdate, run_underlying ht, MapKept.run_getObj_map hb, run_checkKey hk (c.key x) _ 9999, run_findKey hk h1, MapKept.run_setObj_map _ hb, Result.andThen, setBlock]
    · rw [Array.toList_push, List.map_append, he, setK, if_neg (by rw [hne]; simp), List.map_append]
      rfl
  · obtain ⟨p, hp, p1, p2⟩ := map_at c he h2
    have hpm := List.mem_of_getElem? hp
    have hx : p.1 = x := c.inj (p1.trans h3)
    have hj : E[j]? = some e0 := by simpa using h2
    have hhas : hasK es x = true := by rw [hasK_get, ← hx, getK_some hn hpm]; rfl
    refine ⟨setBlock w b (.map (E.modify j fun e' => { e' with key := c.f x, val := v }) cl), ?_, ⟨_, _, setBlock_same hbl _, ?_, stamped_modify hs _ _ (fun _ _ => rfl) (fun e' _ he' => by rw [hj] at he'; cases he'; exact h3.symm)⟩, turn_setBlock _ _ _⟩
    · simp [Instr.mapUpdate, run_underlying ht, MapKept.run_getObj_map hb, run_checkKey hk (c.key x) _ 9999, run_findKey hk h1, hj, h3, run_keyThatStays (c.key x), MapKept.run_setObj_map _ hb, Result.andThen, setBlock]
    · rw [setK, if_pos hhas]
      apply List.ext_getElem?
      intro i
      have hei : (E.toList.map (fun e => (e.key, e.val)))[i]? = (es.map (fun p => (c.f p.1, p.2)))[i]? := by rw [he]
      simp only [List.getElem?_map, Array.getElem?_toList, Array.getElem?_modify] at hei ⊢
      by_cases hij : j = i
      · subst hij
        rw [if_pos rfl, hj, hp]
        simp [hx]
      · rw [if_neg hij, hei]
        cases hq : es[i]? with
        | none => rfl
        | some q =>
          have hqx : q.1 ≠ x := fun hqx => by
            have hi1 := (List.getElem?_eq_some_iff.1 hq).1
            have hj1 := (List.getElem?_eq_some_iff.1 hp).1
            have e1 : (es.map Prod.fst)[i]'(by simpa using hi1) = (es.map Prod.fst)[j]'(by simpa using hj1) := by
              rw [List.getElem_map, List.getElem_map, (List.getElem?_eq_some_iff.1 hq).2, (List.getElem?_eq_some_iff.1 hp).2, hqx, hx]
            exact hij ((List.getElem_inj hn).1 e1).symm
          simp [hqx]
theorem map_erased {α β : Type} (f : α → β) : ∀ (l : List α) (j : Nat), (l.eraseIdx j).map f = (l.map f).eraseIdx j
  | [], _ => rfl
  | _ :: _, 0 => rfl
  | x :: l, j + 1 => by simp [map_erased f l j]
/-- 'delete(m, k)'. -/
theorem MapIs.del {P : Program} {t k e ty : TypeId} (ht : P.underlying t = some (.map k e)) (hk : P.underlying k = some d) {w : World} {b : Nat} {es : List (κ × Value)} (h : MapIs c w b es) (x : κ) :
    ∃ w', (Builtin.delete_ #[t, k] ty #[.map (some b), c.f x]).run P w = .ok (.tuple #[]) w' ∧ MapIs c w' b (delK es x) ∧ Turn b w w' := by
  have hn := h.nodup c
  obtain ⟨E, cl, hb, he, hs⟩ := h
  have hbl := (Array.getElem?_eq_some_iff.1 hb).1
  rcases findNow_spec (c.key x) E.toList 0 (MapIs.isKey c he) with ⟨h1, h2⟩ | ⟨j, e0, h1, h2, h3⟩
  · refine ⟨setBlock w b (.map E cl), ?_, ⟨_, _, setBlock_same hbl _, ?_, hs⟩, turn_setBlock _ _ _⟩
    · simp [Builtin.delete_, run_underlying ht, MapKept.run_getObj_map hb, run_checkKey hk (c.key x) _ 9999, run_findKey hk h1, MapKept.run_setObj_map _ hb, Result.andThen, setBlock]
    · rw [he, delK, List.filter_eq_self.2]
      intro p hp
      have : (c.f p.1, p.2) ∈ es.map (fun p => (c.f p.1, p.2)) := List.mem_map_of_mem hp
      rw [← he] at this
      obtain ⟨y, hy, ey⟩ := List.mem_map.1 this
      have e1 : y.key = c.f p.1 := congrArg Prod.fst ey
      simp only [ne_eq, decide_eq_true_eq]
      exact fun hpx => h2 y hy (by rw [← hpx]; exact e1)
  · obtain ⟨p, hp, p1, p2⟩ := map_at c he h2
    have hx : p.1 = x := c.inj (p1.trans h3)
    have hjl : j < E.size := by simpa using (List.getElem?_eq_some_iff.1 h2).1
    have hje : j < es.length := (List.getElem?_eq_some_iff.1 hp).1
    have hsub : (E.eraseIdxIfInBounds j).toList = E.toList.eraseIdx j := by
      unfold Array.eraseIdxIfInBounds
      rw [dif_pos hjl]
      simp
    refine ⟨setBlock w b (.map (E.eraseIdxIfInBounds j) cl), ?_, ⟨_, _, setBlock_same hbl _, ?_, stamped_erase hs j⟩, turn_setBlock _ _ _⟩
    · simp [Builtin.delete_, run_underlying ht, MapKept.run_getObj_map hb, run_checkKey hk (c.key x) _ 9999, run_findKey hk h1, MapKept.run_setObj_map _ hb, Result.andThen, setBlock]
    · have e1 : delK es x = es.eraseIdx j := by
        unfold delK
        rw [List.eraseIdx_eq_take_drop_succ]
        have hsplit : es = es.take j ++ p :: es.drop (j + 1) := by
          rw [← (List.getElem?_eq_some_iff.1 hp).2, List.getElem_cons_drop, List.take_append_drop]
        have hnd := hn
        rw [hsplit, List.map_append, List.map_cons, List.nodup_append] at hnd
        obtain ⟨_, n2, n3⟩ := hnd
        rw [List.nodup_cons] at n2
        have g1 : (es.take j).filter (fun q => decide (q.1 ≠ x)) = es.take j := List.filter_eq_self.2 fun q hq => by
          have := n3 q.1 (List.mem_map_of_mem hq) p.1 (List.mem_cons_self)
          simpa [hx] using this
        have g2 : (es.drop (j + 1)).filter (fun q => decide (q.1 ≠ x)) = es.drop (j + 1) := List.filter_eq_self.2 fun q hq => by
          have : q.1 ≠ p.1 := fun e => n2.1 (e ▸ List.mem_map_of_mem hq)
          simpa [hx] using this
        conv => lhs; rw [hsplit]
        rw [List.filter_append, List.filter_cons_of_neg (by simp [hx]), g1, g2]
      rw [hsub, e1, map_erased, map_erased, he]
omit [DecidableEq κ] in
/-- 'len(m)'. -/
theorem MapIs.len {P : Program} {t k e ty : TypeId} (ht : P.underlying t = some (.map k e)) {w : World} {b : Nat} {es : List (κ × Value)} (h : MapIs c w b es) :
    (Builtin.len_ #[t] ty #[.map (some b)]).run P w = .ok (goInt es.length) w := by
  obtain ⟨E, cl, hb, he, hs⟩ := h
  have hl : E.size = es.length := by
    have := congrArg List.length he
    simpa using this
  simp [Builtin.len_, run_underlying ht, MapKept.run_getObj_map hb, Result.andThen, hl]
end
end Go.Proofs.YtofofjfmhaggmaaGreatDoor
