/- Appends to rows of the call's own, told exactly; general words. -/
import Derived.Test.YtpndngcopfpdgaaW
import Derived.Test.YtpndngcopfpdgaaProg
import Derived.Lib.SliceRun
import Derived.Deep.RegionLaw
import Derived.ArgAppend
set_option linter.unusedVariables false
set_option linter.unusedSimpArgs false
namespace Go.Proofs.Ytpndngcopfpdgaa
open Go.RowKit

theorem own_base {w : World} {b b' n : Nat} {e : TypeId} {size : Nat} {v : Value} {xs : List Value} (h : w.ownsRow b e size v n xs) (hb : b' ≤ b) : w.ownsRow b' e size v n xs := by
  obtain ⟨h1, h2⟩ := h
  refine ⟨h1, ?_⟩
  rcases h2 with h2 | ⟨g, cap, cur, h3, h4, h5⟩
  · exact .inl h2
  · exact .inr ⟨g, cap, cur, h3, by omega, h5⟩
/-- What only reads blocks that stand as they did. -/
theorem own_same {w w1 : World} {base n : Nat} {e : TypeId} {size : Nat} {v : Value} {xs : List Value} (h : w.ownsRow base e size v n xs) (hb : ∀ (g : Nat) (cs : Array Value), w.heap[g]? = some (.cells cs e (0, 0)) → v.ownBlock = some g → w1.heap[g]? = w.heap[g]?) : w1.ownsRow base e size v n xs := by
  obtain ⟨h1, h2⟩ := h
  refine ⟨h1, ?_⟩
  rcases h2 with h2 | ⟨g, cap, cur, rfl, h4, h5, h6⟩
  · exact .inl h2
  · exact .inr ⟨g, cap, cur, rfl, h4, (hb g cur h5 rfl).trans h5, h6⟩
/-- Blocks of the given element types are as they were (below what was there). -/
def Still (T : TypeId → Prop) (w w' : World) : Prop := ∀ (g : Nat) (cs : Array Value) (e : TypeId), T e → w.heap[g]? = some (.cells cs e (0, 0)) → w'.heap[g]? = some (.cells cs e (0, 0))
theorem Still.of_below {T : TypeId → Prop} {w w' : World} (h : Below w.heap.size w w') : Still T w w' := fun g cs e _ hg => block_below hg h
theorem own_still {T : TypeId → Prop} {w w1 : World} {base n : Nat} {e : TypeId} {size : Nat} {v : Value} {xs : List Value} (h : w.ownsRow base e size v n xs) (hs : Still T w w1) (he : T e) : w1.ownsRow base e size v n xs :=
  own_same h fun g cs hg _ => (hs g cs e he hg).trans hg.symm
theorem own_cells {w : World} {base n g cap size : Nat} {e : TypeId} {xs : List Value} (h : w.ownsRow base e size (.slice (some ⟨g, 0, none⟩) n cap) n xs) : ∀ j u, xs[j]? = some u → w.cell? ((⟨g, 0, none⟩ : Addr).add j) = some u := by
  intro j u hu
  have hadd : (⟨g, 0, none⟩ : Addr).add j = ⟨g, j, none⟩ := by unfold Addr.add; split <;> simp_all
  have hj : j < n * size := by
    have := (List.getElem?_eq_some_iff.1 hu).1
    rw [h.1] at this
    exact this
  rw [hadd, h.cellAt j hj, hu]
theorem own_forms {w : World} {base n size : Nat} {e : TypeId} {v : Value} {xs : List Value} (h : w.ownsRow base e size v n xs) : (v = .slice none 0 0 ∧ n = 0 ∧ xs = []) ∨ ∃ g cap, v = .slice (some ⟨g, 0, none⟩) n cap ∧ base ≤ g ∧ g < w.heap.size := by
  rcases h.2 with ⟨h1, rfl⟩ | ⟨g, cap, cur, h3, h4, h5, _⟩
  · exact .inl ⟨h1, rfl, by have := h.1; simpa using this⟩
  · exact .inr ⟨g, cap, h3, h4, (Array.getElem?_eq_some_iff.1 h5).1⟩
/-- An element type of s cells. -/
def Elt (P : Program) (t e : TypeId) (s bytes : Nat) : Prop := P.underlying t = some (.slice e) ∧ 0 < s ∧ bytes ≤ 128 ∧ ∃ i z, P.info? e = some i ∧ i.zero = some z ∧ i.size = s ∧ i.bytes = bytes ∧ z.cells.size = s
theorem elt_of {P : Program} {t e : TypeId} {s bytes : Nat} (h : P.underlying t = some (.slice e)) (h1 : 0 < s) (h2 : bytes ≤ 128)
    (h3 : (P.info? e).map (fun i => (i.zero.map (fun z => z.cells.size), i.size, i.bytes)) = some (some s, s, bytes)) : Elt P t e s bytes := by
  refine ⟨h, h1, h2, ?_⟩
  match hi : P.info? e with
  | none => rw [hi] at h3; cases h3
  | some i =>
    rw [hi] at h3
    simp only [Option.map_some, Option.some.injEq, Prod.mk.injEq] at h3
    obtain ⟨h4, h5, h6⟩ := h3
    match hz : i.zero with
    | none => rw [hz] at h4; cases h4
    | some z =>
      rw [hz] at h4
      exact ⟨i, z, rfl, hz, h5, h6, by simpa using h4⟩
theorem elt_ints : Elt Try.prog 29 3 1 8 := elt_of Try.underlying29 (by decide) (by decide) (by kernel_rfl)
theorem elt_strs : Elt Try.prog 30 9 1 16 := elt_of Try.underlying30 (by decide) (by decide) (by kernel_rfl)
/-- All stands but the listed places of one block. -/
structure But (g : Nat) (ps : List Nat) (w w' : World) : Prop where
  os : w'.os = w.os
  tape : w'.tape = w.tape
  output : w'.output = w.output
  size : w.heap.size ≤ w'.heap.size
  block : ∀ k, k < w.heap.size → k ≠ g → w'.heap[k]? = w.heap[k]?
  row : ∀ (cs : Array Value) (T : TypeId), w.heap[g]? = some (.cells cs T (0, 0)) → ∃ cs', w'.heap[g]? = some (.cells cs' T (0, 0)) ∧ cs'.size = cs.size ∧ ∀ q, q ∉ ps → cs'[q]? = cs[q]?
theorem But.refl (g : Nat) (ps : List Nat) (w : World) : But g ps w w := ⟨rfl, rfl, rfl, Nat.le_refl _, fun _ _ _ => rfl, fun cs T h => ⟨cs, h, rfl, fun _ _ => rfl⟩⟩
theorem But.trans {g : Nat} {ps : List Nat} {a b c : World} (h : But g ps a b) (k : But g ps b c) : But g ps a c :=
  ⟨k.os.trans h.os, k.tape.trans h.tape, k.output.trans h.output, Nat.le_trans h.size k.size, fun i hi hg => (k.block i (Nat.lt_of_lt_of_le hi h.size) hg).trans (h.block i hi hg), fun cs T hc => by
    obtain ⟨c1, h1, h2, h3⟩ := h.row cs T hc
    obtain ⟨c2, k1, k2, k3⟩ := k.row c1 T h1
    exact ⟨c2, k1, k2.trans h2, fun q hq => (k3 q hq).trans (h3 q hq)⟩⟩
theorem But.of_below {g : Nat} {ps : List Nat} {w w' : World} (h : Below w.heap.size w w') : But g ps w w' :=
  ⟨h.os, h.tape, h.output, h.size, fun k hk _ => h.block k hk, fun cs T hc => ⟨cs, block_below hc h, rfl, fun _ _ => rfl⟩⟩
theorem But.mono {g : Nat} {ps qs : List Nat} {w w' : World} (h : But g ps w w') (hs : ∀ q ∈ ps, q ∈ qs) : But g qs w w' :=
  ⟨h.os, h.tape, h.output, h.size, h.block, fun cs T hc => by
    obtain ⟨c1, h1, h2, h3⟩ := h.row cs T hc
    exact ⟨c1, h1, h2, fun q hq => h3 q fun hp => hq (hs q hp)⟩⟩
theorem But.set (w : World) (g q : Nat) (u : Value) : But g [q] w (w.setCell ⟨g, q, none⟩ u) :=
  ⟨rfl, rfl, rfl, by simp [World.setCell], fun k hk hg => Below.heap_setCell _ _ _ _ hg, fun cs T hc => ⟨cs.setIfInBounds q u, heap_setCell_same _ _ _ _ _ _ hc, by simp, fun p hp => by
    have : q ≠ p := fun e => hp (by simp [e])
    simp [Array.getElem?_setIfInBounds, this]⟩⟩
theorem But.cell {g : Nat} {ps : List Nat} {w w' : World} (h : But g ps w w') {cs : Array Value} {T : TypeId} (hc : w.heap[g]? = some (.cells cs T (0, 0))) {q : Nat} (hq : q ∉ ps) {v : Value} (hv : w.cell? ⟨g, q, none⟩ = some v) : w'.cell? ⟨g, q, none⟩ = some v := by
  obtain ⟨c1, h1, h2, h3⟩ := h.row cs T hc
  have e : cs[q]? = some v := by simpa [World.cell?, hc] using hv
  exact cell_of_block h1 q v ((h3 q hq).trans e)
theorem But.still {g : Nat} {ps : List Nat} {w w' : World} {T : TypeId → Prop} {cs : Array Value} {e : TypeId} (h : But g ps w w') (hc : w.heap[g]? = some (.cells cs e (0, 0))) (hT : ¬ T e) : Still T w w' := by
  intro k ds e' he hk
  have hkl : k < w.heap.size := (Array.getElem?_eq_some_iff.1 hk).1
  have hne : k ≠ g := by
    rintro rfl
    rw [hc] at hk
    injection hk with hk
    injection hk with _ hk
    exact hT (hk ▸ he)
  rw [h.block k hkl hne, hk]
theorem Below.but {B g : Nat} {ps : List Nat} {a w w' : World} (h : Below B a w) (k : But g ps w w') (hg : B ≤ g) (hB : B ≤ w.heap.size) : Below B a w' :=
  h.trans ⟨k.os, k.tape, k.output, k.size, fun i hi => k.block i (by omega) (by omega)⟩
theorem own_slice {w : World} {base n size : Nat} {e : TypeId} {v : Value} {xs : List Value} (h : w.ownsRow base e size v n xs) : ∃ a l c, v = .slice a l c := by
  rcases own_forms h with ⟨rfl, _⟩ | ⟨g, cap, rfl, _⟩ <;> exact ⟨_, _, _, rfl⟩
theorem own_slicen {w : World} {base n size : Nat} {e : TypeId} {v : Value} {xs : List Value} (h : w.ownsRow base e size v n xs) : ∃ a c, v = .slice a n c := by
  rcases own_forms h with ⟨rfl, rfl, _⟩ | ⟨g, cap, rfl, _⟩ <;> exact ⟨_, _, rfl⟩
theorem own_lit {w : World} {g base n size : Nat} {cs : Array Value} {e : TypeId} (h : w.heap[g]? = some (.cells cs e (0, 0))) (hs : cs.size = n * size) (hn : n ≤ maxLen) (hb : base ≤ g) : w.ownsRow base e size (.slice (some ⟨g, 0, none⟩) n n) n cs.toList :=
  ⟨by rw [Array.length_toList]; exact hs, .inr ⟨g, n, cs, rfl, hb, h, Nat.le_refl _, hn, hs, by rw [← hs, ← Array.length_toList, List.take_length]⟩⟩
/-- A slice of numbers that only is read. -/
def Nums (w : World) (v : Value) (l : List Int) : Prop :=
  ∃ a c, v = .slice a l.length c ∧ (l.length ≤ 17592186044416) ∧ ∀ i, i < l.length → ∃ b off, a = some ⟨b, off, none⟩ ∧ w.cell? ⟨b, off + i, none⟩ = some (.int .i64 (l.getD i 0))
theorem Nums.below {w w' : World} {v : Value} {l : List Int} (h : Nums w v l) (hb : Below w.heap.size w w') : Nums w' v l := by
  obtain ⟨a, c, h1, h2, h3⟩ := h
  exact ⟨a, c, h1, h2, fun i hi => by
    obtain ⟨b, off, h4, h5⟩ := h3 i hi
    exact ⟨b, off, h4, cell_below h5 hb⟩⟩
theorem Nums.nil (w : World) : Nums w (.slice none 0 0) [] := ⟨none, 0, rfl, by decide, fun i hi => absurd hi (Nat.not_lt_zero _)⟩
theorem news_row {w : World} {g : Nat} {cs : Array Value} {T : TypeId} (h : w.heap[g]? = some (.cells cs T (0, 0))) : ∀ j u, cs.toList[j]? = some u → w.cell? ((⟨g, 0, none⟩ : Addr).add j) = some u := by
  intro j u hu
  have hadd : (⟨g, 0, none⟩ : Addr).add j = ⟨g, j, none⟩ := by unfold Addr.add; split <;> simp_all
  rw [hadd]
  exact cell_of_block h j u (by simpa using hu)
theorem nums_row {w : World} {a : Option Addr} {len cap : Nat} {zs : List Int} (h : IsRow .i64 w a len cap zs) (y : len * 8 ≤ 140737488351232) : Nums w (.slice a len cap) (zs.take len) := by
  have hl : (zs.take len).length = len := by
    rcases h with ⟨_, rfl, _, rfl⟩ | ⟨x, _, h1, _, h2, _⟩
    · rfl
    · rw [List.length_take]; omega
  refine ⟨a, cap, by rw [hl], by omega, fun i hi => ?_⟩
  rw [hl] at hi
  obtain ⟨b, off, e, _, _, hc⟩ := IsRow.at_ h (by omega)
  refine ⟨b, off, e, ?_⟩
  rw [hc i hi, List.getD_eq_getElem?_getD, List.getD_eq_getElem?_getD, List.getElem?_take_of_lt hi]
/-- Values laid into an array from o on. -/
def laid (cs : Array Value) : Nat → List Value → Array Value
  | _, [] => cs
  | o, v :: r => laid (cs.setIfInBounds o v) (o + 1) r
theorem laid_size : ∀ (vs : List Value) (o : Nat) (cs : Array Value), (laid cs o vs).size = cs.size
  | [], _, _ => rfl
  | v :: r, o, cs => by rw [laid, laid_size r]; simp
theorem laid_get : ∀ (vs : List Value) (o : Nat) (cs : Array Value) (k : Nat), o + vs.length ≤ cs.size → (laid cs o vs)[k]? = if o ≤ k ∧ k < o + vs.length then vs[k - o]? else cs[k]?
  | [], o, cs, k, _ => by simp [laid]; omega
  | v :: r, o, cs, k, h => by
    simp only [List.length_cons] at h
    rw [laid, laid_get r (o + 1) _ k (by simp; omega), Array.getElem?_setIfInBounds]
    by_cases h1 : o + 1 ≤ k ∧ k < o + 1 + r.length
    · rw [if_pos h1, if_pos ⟨by omega, by simp; omega⟩, show k - o = (k - (o + 1)) + 1 by omega, List.getElem?_cons_succ]
    · rw [if_neg h1]
      by_cases h2 : o = k
      · subst h2
        rw [if_pos rfl, if_pos (by omega), if_pos ⟨Nat.le_refl _, by simp⟩]
        simp
      · rw [if_neg h2, if_neg (by simp; omega)]
theorem heap_setCells (g : Nat) (T : TypeId) : ∀ (vs : List Value) (o : Nat) (w : World) (cs : Array Value), w.heap[g]? = some (.cells cs T (0, 0)) → (w.setCells g o vs).heap[g]? = some (.cells (laid cs o vs) T (0, 0))
  | [], _, _, _, h => h
  | v :: r, o, w, cs, h => heap_setCells g T r (o + 1) _ _ (heap_setCell_same _ _ _ _ _ _ h)
theorem below_of_grown {w w' : World} (h : w.grownBy w' none) : Below w.heap.size w w' := ⟨h.os, h.tape, h.output, h.size, fun k hk => h.block k hk (by simp)⟩
theorem own_row {w : World} {base n size : Nat} {e : TypeId} {v : Value} {xs : List Value} (h : w.ownsRow base e size v n xs) : ∀ g, v.ownBlock = some g → ∃ cs, w.heap[g]? = some (.cells cs e (0, 0)) := by
  intro g hg
  rcases h.2 with ⟨rfl, _⟩ | ⟨g', cap, cur, rfl, _, hh, _⟩
  · simp [Value.ownBlock] at hg
  · have : g' = g := by simpa [Value.ownBlock] using hg
    subst this
    exact ⟨cur, hh⟩
/-- What appending to a new empty slice gives. -/
theorem wp_app_empty {P : Program} {w : World} {o : Oper} {a : Act} {K : Act → World → Prop} {Q : Exit → Act → World → Prop} {t e : TypeId} {size bytes : Nat} (hE : Elt P t e size bytes) (s x : Operand)
    (ho : o.op = .call { callee := .builtin .append, args := #[s, x], argTypes := #[t, t] }) {g m c : Nat} {ax : Option Addr} {news : List Value} (hs : a.eval s = .slice (some ⟨g, 0, none⟩) 0 0) (hx : a.eval x = .slice ax m c)
    (hax : m = 0 ∨ ∃ A, ax = some A ∧ ∀ j u, news[j]? = some u → w.cell? (A.add j) = some u) (hl : news.length = m * size) (h1 : ∀ u ∈ news, u.oneCell' = true) (hn : m ≤ 1099511627776)
    (h : ∀ v' w', (m = 0 ∧ v' = .slice (some ⟨g, 0, none⟩) 0 0 ∨ w'.ownsRow w.heap.size e size v' m news) → Below w.heap.size w w' → K (a.put o.dst v') w') : o.wp P a w K Q := by
  obtain ⟨q1, q2, q3, i, z, q4, q5, q6, q7, q8⟩ := hE
  have hbb : m * bytes ≤ 1099511627776 * 128 := Nat.mul_le_mul hn q3
  by_cases hm : m = 0
  · subst hm
    have hr : (Builtin.append_ #[t, t] o.type #[.slice (some ⟨g, 0, none⟩) 0 0, .slice ax 0 c]).run P w = .ok (.slice (some ⟨g, 0, none⟩) 0 0) w := by
      cases ax <;> simp [Builtin.append_, run_underlying q1, sizeOf, typeInfo, q4, Builtin.lenOf, Builtin.firstCells, storeCells, loadCells, loadCellsFrom]
    unfold Oper.wp execOp
    simp only [ho, resolve, invoke, builtin, Sem.run_bind, Sem.run_pure, Result.andThen_ok, List.map_toArray, List.map_cons, List.map_nil, hs, hx, hr]
    exact h _ _ (.inl ⟨rfl, rfl⟩) (Below.refl _ _)
  · obtain ⟨A, rfl, hA⟩ := hax.resolve_left hm
    obtain ⟨v', w', hr, r1, r2⟩ := run_append_arg_grows (P := P) w t o.type e i z size bytes q1 q4 q5 q6 q7 q8 q2 ⟨g, 0, none⟩ 0 0 [] (by simp) (fun j u hu => by simp at hu) A m c news hl hA (by omega) (by unfold maxLen; omega) (by rw [Nat.zero_add]; omega)
    unfold Oper.wp execOp
    simp only [ho, resolve, invoke, builtin, Sem.run_bind, Sem.run_pure, Result.andThen_ok, List.map_toArray, List.map_cons, List.map_nil, hs, hx, hr]
    rw [Nat.zero_add, List.nil_append] at r1
    exact h _ _ (.inr r1) (below_of_grown r2)
theorem list_app_empty {P : Program} {w : World} {ops : Array Oper} {rest : List Oper} {o : Oper} {a : Act} {Q : Exit → Act → World → Prop} {t e : TypeId} {size bytes : Nat} (hE : Elt P t e size bytes) (s x : Operand)
    (hgd : o.guard = none) (ho : o.op = .call { callee := .builtin .append, args := #[s, x], argTypes := #[t, t] }) {g m c : Nat} {ax : Option Addr} {news : List Value} (hs : a.eval s = .slice (some ⟨g, 0, none⟩) 0 0) (hx : a.eval x = .slice ax m c)
    (hax : m = 0 ∨ ∃ A, ax = some A ∧ ∀ j u, news[j]? = some u → w.cell? (A.add j) = some u) (hl : news.length = m * size) (h1 : ∀ u ∈ news, u.oneCell' = true) (hn : m ≤ 1099511627776)
    (h : ∀ v' w', (m = 0 ∧ v' = .slice (some ⟨g, 0, none⟩) 0 0 ∨ w'.ownsRow w.heap.size e size v' m news) → Below w.heap.size w w' → wpList P ops Q rest (a.put o.dst v') w') : wpList P ops Q (o :: rest) a w :=
  wpList_plain hgd fun _ hK => wp_app_empty hE s x ho hs hx hax hl h1 hn fun v' w' h2 h3 => hK _ _ (h v' w' h2 h3)
/-- Blocks of type T from number N on may have changed behind their first n cells; nothing else that was there. -/
structure Spill (N n : Nat) (T : TypeId) (w w' : World) : Prop where
  os : w'.os = w.os
  tape : w'.tape = w.tape
  output : w'.output = w.output
  size : w.heap.size ≤ w'.heap.size
  block : ∀ k, k < w.heap.size → w'.heap[k]? = w.heap[k]? ∨ (N ≤ k ∧ ∃ cs cs', w.heap[k]? = some (.cells cs T (0, 0)) ∧ w'.heap[k]? = some (.cells cs' T (0, 0)) ∧ cs'.size = cs.size ∧ cs'.toList.take n = cs.toList.take n)
theorem Spill.of_below {N n : Nat} {T : TypeId} {w w' : World} (h : Below w.heap.size w w') : Spill N n T w w' := ⟨h.os, h.tape, h.output, h.size, fun k hk => .inl (h.block k hk)⟩
theorem Spill.below {N n B : Nat} {T : TypeId} {w w' : World} (h : Spill N n T w w') (hB : B ≤ w.heap.size) (hN : B ≤ N) : Below B w w' :=
  ⟨h.os, h.tape, h.output, h.size, fun k hk => (h.block k (Nat.lt_of_lt_of_le hk hB)).resolve_right fun h => by omega⟩
theorem Spill.still {N n : Nat} {T : TypeId} {w w' : World} (h : Spill N n T w w') : Still (fun e => e ≠ T) w w' := by
  intro k cs e he hk
  rcases h.block k (Array.getElem?_eq_some_iff.1 hk).1 with h1 | ⟨_, c1, c2, h1, _⟩
  · exact h1.trans hk
  · rw [hk] at h1
    injection h1 with h1
    injection h1 with _ h1
    exact absurd h1 he
theorem Spill.trans {N n : Nat} {T : TypeId} {a b c : World} (h : Spill N n T a b) (k : Spill N n T b c) : Spill N n T a c := by
  refine ⟨k.os.trans h.os, k.tape.trans h.tape, k.output.trans h.output, Nat.le_trans h.size k.size, fun i hi => ?_⟩
  rcases k.block i (Nat.lt_of_lt_of_le hi h.size) with h1 | ⟨h0, c1, c2, h1, h2, h3, h4⟩
  · rcases h.block i hi with h5 | ⟨h0, d1, d2, h5, h6, h7, h8⟩
    · exact .inl (h1.trans h5)
    · exact .inr ⟨h0, d1, d2, h5, h1.trans h6, h7, h8⟩
  · rcases h.block i hi with h5 | ⟨h0, d1, d2, h5, h6, h7, h8⟩
    · exact .inr ⟨h0, c1, c2, h5 ▸ h1, h2, h3, h4⟩
    · rw [h6] at h1
      injection h1 with h1
      injection h1 with h1 _
      subst h1
      exact .inr ⟨h0, d1, c2, h5, h2, h3.trans h7, h4.trans h8⟩
theorem Spill.own {N n b m size : Nat} {T : TypeId} {w w' : World} {e : TypeId} {v : Value} {xs : List Value} (h : Spill N n T w w') (ho : w.ownsRow b e size v m xs) (hm : e = T → m * size ≤ n) : w'.ownsRow b e size v m xs := by
  refine ⟨ho.1, ?_⟩
  rcases ho.2 with h2 | ⟨g, cap, cur, rfl, hb, hg, hc, hx, hs, ht⟩
  · exact .inl h2
  · rcases h.block g (Array.getElem?_eq_some_iff.1 hg).1 with h1 | ⟨_, c1, c2, h1, h2, h3, h4⟩
    · exact .inr ⟨g, cap, cur, rfl, hb, h1.trans hg, hc, hx, hs, ht⟩
    · rw [hg] at h1
      injection h1 with h1
      injection h1 with h1 h5
      subst h1 h5
      refine .inr ⟨g, cap, c2, rfl, hb, h2, hc, hx, h3.trans hs, ?_⟩
      have hmn := hm rfl
      have e1 : (c2.toList.take n).take (m * size) = (cur.toList.take n).take (m * size) := by rw [h4]
      rw [List.take_take, List.take_take, Nat.min_eq_left hmn] at e1
      rw [e1, ht]
theorem keep_setCells (g : Nat) : ∀ (vs : List Value) (o : Nat) (w : World), (w.setCells g o vs).os = w.os ∧ (w.setCells g o vs).tape = w.tape ∧ (w.setCells g o vs).output = w.output ∧ w.heap.size ≤ (w.setCells g o vs).heap.size ∧ ∀ k, k < w.heap.size → k ≠ g → (w.setCells g o vs).heap[k]? = w.heap[k]?
  | [], _, w => ⟨rfl, rfl, rfl, Nat.le_refl _, fun _ _ _ => rfl⟩
  | v :: r, o, w => by
    have hb := But.set w g o v
    obtain ⟨h1, h2, h3, h4, h5⟩ := keep_setCells g r (o + 1) (w.setCell ⟨g, o, none⟩ v)
    exact ⟨h1.trans hb.os, h2.trans hb.tape, h3.trans hb.output, Nat.le_trans hb.size h4, fun k hk hne => (h5 k (Nat.lt_of_lt_of_le hk hb.size) hne).trans (hb.block k hk hne)⟩
theorem own_laid {w : World} {base n m g cap size : Nat} {e : TypeId} {xs news : List Value} {cur : Array Value} (hg : w.heap[g]? = some (.cells cur e (0, 0))) (h : w.ownsRow base e size (.slice (some ⟨g, 0, none⟩) n cap) n xs) (hn : n + m ≤ cap) (hl : news.length = m * size) :
    (w.setCells g (n * size) news).ownsRow base e size (.slice (some ⟨g, 0, none⟩) (n + m) cap) (n + m) (xs ++ news) ∧ Spill base (n * size) e w (w.setCells g (n * size) news) := by
  obtain ⟨h1, h2⟩ := h
  obtain ⟨g', cap', cur', e1, hb, hg', hc, hm, hs, ht⟩ := h2.resolve_left (by rintro ⟨h, _⟩; cases h)
  injection e1 with e1 e2 e3
  injection e1 with e1
  injection e1 with e1
  subst e1 e3
  rw [hg] at hg'
  injection hg' with hg'
  injection hg' with hg' _
  subst hg'
  have hcs : (n + m) * size ≤ cap * size := Nat.mul_le_mul_right _ hn
  rw [Nat.add_mul] at hcs
  have hh := heap_setCells g e news (n * size) w cur hg
  refine ⟨⟨by rw [List.length_append, h1, hl, Nat.add_mul], .inr ⟨g, cap, _, rfl, hb, hh, hn, hm, by rw [laid_size]; exact hs, ?_⟩⟩, ?_⟩
  · apply List.ext_getElem?
    intro k
    rw [Nat.add_mul]
    by_cases hk : k < n * size
    · rw [List.getElem?_take_of_lt (by omega), List.getElem?_append_left (by omega), ← ht, List.getElem?_take_of_lt hk, Array.getElem?_toList, laid_get _ _ _ _ (by omega), if_neg (by omega), Array.getElem?_toList]
    · by_cases hk2 : k < n * size + m * size
      · rw [List.getElem?_take_of_lt hk2, List.getElem?_append_right (by omega), h1, Array.getElem?_toList, laid_get _ _ _ _ (by omega), if_pos (by omega)]
      · rw [List.getElem?_eq_none (by simp; omega), List.getElem?_eq_none (by simp; omega)]
  · have hgl := (Array.getElem?_eq_some_iff.1 hg).1
    obtain ⟨k1, k2, k3, k4, k5⟩ := keep_setCells g news (n * size) w
    refine ⟨k1, k2, k3, k4, fun k hk => ?_⟩
    · by_cases e : k = g
      · subst e
        refine .inr ⟨hb, cur, _, hg, hh, laid_size _ _ _, ?_⟩
        apply List.ext_getElem?
        intro q
        by_cases hq : q < n * size
        · rw [List.getElem?_take_of_lt hq, List.getElem?_take_of_lt hq, Array.getElem?_toList, Array.getElem?_toList, laid_get _ _ _ _ (by omega), if_neg (by omega)]
        · rw [List.getElem?_eq_none (by simp; omega), List.getElem?_eq_none (by simp; omega)]
      · exact .inl (k5 k hk e)
theorem wp_app_spill {P : Program} {w : World} {o : Oper} {a : Act} {K : Act → World → Prop} {Q : Exit → Act → World → Prop} {t e : TypeId} {size bytes : Nat} (hE : Elt P t e size bytes) (s x : Operand)
    (ho : o.op = .call { callee := .builtin .append, args := #[s, x], argTypes := #[t, t] }) {v : Value} {n m base c : Nat} {ad : Addr} {xs news : List Value} (hs : a.eval s = v) (hx : a.eval x = .slice (some ad) m c)
    (hown : w.ownsRow base e size v n xs) (hl : news.length = m * size) (hnews : ∀ j u, news[j]? = some u → w.cell? (ad.add j) = some u) (h1 : ∀ u ∈ news, u.oneCell' = true) (hn : n + m ≤ 1099511627776) (hbase : base ≤ w.heap.size)
    (h : ∀ v' w', w'.ownsRow base e size v' (n + m) (xs ++ news) → Spill base (n * size) e w w' → K (a.put o.dst v') w') : o.wp P a w K Q := by
  obtain ⟨q1, q2, q3, i, z, q4, q5, q6, q7, q8⟩ := hE
  have hbb : (n + m) * bytes ≤ 1099511627776 * 128 := Nat.mul_le_mul hn q3
  rcases own_forms hown with ⟨rfl, rfl, rfl⟩ | ⟨g, cap, rfl, hgb, hgs⟩
  · exact wp_append_own w s x t ho base e i z size bytes q1 q4 q5 q6 q7 q8 q2 _ 0 [] hs hown ad m c news hx hl hnews h1 (by unfold maxLen; omega) (by omega) hbase fun v' w' a b _ => h v' w' a (Spill.of_below (below_of_grown b))
  · obtain ⟨_, cap', cur, e1, _, hg, hc, hm, hsz, ht⟩ := hown.2.resolve_left (by rintro ⟨h, _⟩; cases h)
    injection e1 with e1 e2 e3
    injection e1 with e1
    injection e1 with e1
    subst e1 e3
    by_cases hroom : n + m ≤ cap
    · have hms : (n + m) * size ≤ cap * size := Nat.mul_le_mul_right _ hroom
      rw [Nat.add_mul] at hms
      have hr := run_append_room_cells (P := P) w t o.type e i q1 q4 g 0 n cap ad m c news (by rw [q6]; exact hl) hnews h1 hroom
        (fun j hj => by
          rw [q6]
          have : cur[0 + n * size + j]? = some cur[n * size + j] := by rw [Nat.zero_add]; exact Array.getElem?_eq_getElem (by omega)
          rw [cell_of_block hg _ _ this]
          rfl) (fun j hj => free_of_block hg _)
      rw [q6, Nat.zero_add] at hr
      obtain ⟨r1, r2⟩ := own_laid hg hown hroom hl
      unfold Oper.wp execOp
      simp only [ho, resolve, invoke, builtin, Sem.run_bind, Sem.run_pure, Result.andThen_ok, List.map_toArray, List.map_cons, List.map_nil, hs, hx, hr]
      exact h _ _ r1 r2
    · obtain ⟨v', w', hr, r1, r2⟩ := run_append_arg_grows (P := P) w t o.type e i z size bytes q1 q4 q5 q6 q7 q8 q2 ⟨g, 0, none⟩ n cap xs hown.1 (own_cells hown) ad m c news hl hnews (by omega) (by unfold maxLen; omega) (by omega)
      unfold Oper.wp execOp
      simp only [ho, resolve, invoke, builtin, Sem.run_bind, Sem.run_pure, Result.andThen_ok, List.map_toArray, List.map_cons, List.map_nil, hs, hx, hr]
      exact h _ _ (own_base r1 hbase) (Spill.of_below (below_of_grown r2))
theorem wp_app_full {P : Program} {w : World} {o : Oper} {a : Act} {K : Act → World → Prop} {Q : Exit → Act → World → Prop} {t e : TypeId} {size bytes : Nat} (hE : Elt P t e size bytes) (s x : Operand)
    (ho : o.op = .call { callee := .builtin .append, args := #[s, x], argTypes := #[t, t] }) {v : Value} {n m base c : Nat} {ad : Addr} {xs news : List Value} (hs : a.eval s = v) (hx : a.eval x = .slice (some ad) m c)
    (hown : w.ownsRow base e size v n xs) (hl : news.length = m * size) (hnews : ∀ j u, news[j]? = some u → w.cell? (ad.add j) = some u) (h1 : ∀ u ∈ news, u.oneCell' = true) (hn : n + m ≤ 1099511627776) (hbase : base ≤ w.heap.size)
    (h : ∀ v' w', w'.ownsRow base e size v' (n + m) (xs ++ news) → Spill base (n * size) e w w' → w.grownBy w' v.ownBlock → (v'.ownBlock = v.ownBlock ∨ ∀ g, v'.ownBlock = some g → w.heap.size ≤ g) → K (a.put o.dst v') w') : o.wp P a w K Q := by
  obtain ⟨q1, q2, q3, i, z, q4, q5, q6, q7, q8⟩ := hE
  have hbb : (n + m) * bytes ≤ 1099511627776 * 128 := Nat.mul_le_mul hn q3
  rcases own_forms hown with ⟨rfl, rfl, rfl⟩ | ⟨g, cap, rfl, hgb, hgs⟩
  · exact wp_append_own w s x t ho w.heap.size e i z size bytes q1 q4 q5 q6 q7 q8 q2 _ 0 [] hs (World.ownsRow_nil _ _ _ _) ad m c news hx hl hnews h1 (by unfold maxLen; omega) (by omega) (Nat.le_refl _) fun v' w' a b _ => h v' w' (own_base a hbase) (Spill.of_below (below_of_grown b)) b (.inr fun g hg => (a.lt g hg).1)
  · obtain ⟨_, cap', cur, e1, _, hg, hc, hm, hsz, ht⟩ := hown.2.resolve_left (by rintro ⟨h, _⟩; cases h)
    injection e1 with e1 e2 e3
    injection e1 with e1
    injection e1 with e1
    subst e1 e3
    by_cases hroom : n + m ≤ cap
    · have hms : (n + m) * size ≤ cap * size := Nat.mul_le_mul_right _ hroom
      rw [Nat.add_mul] at hms
      have hr := run_append_room_cells (P := P) w t o.type e i q1 q4 g 0 n cap ad m c news (by rw [q6]; exact hl) hnews h1 hroom
        (fun j hj => by
          rw [q6]
          have : cur[0 + n * size + j]? = some cur[n * size + j] := by rw [Nat.zero_add]; exact Array.getElem?_eq_getElem (by omega)
          rw [cell_of_block hg _ _ this]
          rfl) (fun j hj => free_of_block hg _)
      rw [q6, Nat.zero_add] at hr
      obtain ⟨r1, r2⟩ := own_laid hg hown hroom hl
      unfold Oper.wp execOp
      simp only [ho, resolve, invoke, builtin, Sem.run_bind, Sem.run_pure, Result.andThen_ok, List.map_toArray, List.map_cons, List.map_nil, hs, hx, hr]
      obtain ⟨k1, k2, k3, k4, k5⟩ := keep_setCells g news (n * size) w
      exact h _ _ r1 r2 ⟨k1, k2, k3, k4, fun k hk hne => k5 k hk fun e => hne (by rw [e]; rfl)⟩ (.inl rfl)
    · obtain ⟨v', w', hr, r1, r2⟩ := run_append_arg_grows (P := P) w t o.type e i z size bytes q1 q4 q5 q6 q7 q8 q2 ⟨g, 0, none⟩ n cap xs hown.1 (own_cells hown) ad m c news hl hnews (by omega) (by unfold maxLen; omega) (by omega)
      unfold Oper.wp execOp
      simp only [ho, resolve, invoke, builtin, Sem.run_bind, Sem.run_pure, Result.andThen_ok, List.map_toArray, List.map_cons, List.map_nil, hs, hx, hr]
      exact h _ _ (own_base r1 hbase) (Spill.of_below (below_of_grown r2)) ⟨r2.os, r2.tape, r2.output, r2.size, fun k hk _ => r2.block k hk (by simp)⟩ (.inr fun g hg => (r1.lt g hg).1)
theorem list_app_spill {P : Program} {w : World} {ops : Array Oper} {rest : List Oper} {o : Oper} {a : Act} {Q : Exit → Act → World → Prop} {t e : TypeId} {size bytes : Nat} (hE : Elt P t e size bytes) (s x : Operand)
    (hgd : o.guard = none) (ho : o.op = .call { callee := .builtin .append, args := #[s, x], argTypes := #[t, t] }) {v : Value} {n m base c : Nat} {ad : Addr} {xs news : List Value} (hs : a.eval s = v) (hx : a.eval x = .slice (some ad) m c)
    (hown : w.ownsRow base e size v n xs) (hl : news.length = m * size) (hnews : ∀ j u, news[j]? = some u → w.cell? (ad.add j) = some u) (h1 : ∀ u ∈ news, u.oneCell' = true) (hn : n + m ≤ 1099511627776) (hbase : base ≤ w.heap.size)
    (h : ∀ v' w', w'.ownsRow base e size v' (n + m) (xs ++ news) → Spill base (n * size) e w w' → wpList P ops Q rest (a.put o.dst v') w') : wpList P ops Q (o :: rest) a w :=
  wpList_plain hgd fun _ hK => wp_app_spill hE s x ho hs hx hown hl hnews h1 hn hbase fun v' w' h2 h3 => hK _ _ (h v' w' h2 h3)
/-- The same for a new empty slice, as one operation. -/
theorem wp_app_new {P : Program} {w : World} {o : Oper} {a : Act} {K : Act → World → Prop} {Q : Exit → Act → World → Prop} {t e : TypeId} {size bytes : Nat} (hE : Elt P t e size bytes) (s x : Operand)
    (ho : o.op = .call { callee := .builtin .append, args := #[s, x], argTypes := #[t, t] }) {g m c b : Nat} {ax : Option Addr} {news : List Value} (hs : a.eval s = .slice (some ⟨g, 0, none⟩) 0 0) (hx : a.eval x = .slice ax m c)
    (hb : w.heap[g]? = some (.cells #[] e (0, 0))) (hbg : b ≤ g)
    (hax : m = 0 ∨ ∃ A, ax = some A ∧ ∀ j u, news[j]? = some u → w.cell? (A.add j) = some u) (hl : news.length = m * size) (h1 : ∀ u ∈ news, u.oneCell' = true) (hn : m ≤ 1099511627776)
    (h : ∀ v' w', w'.ownsRow b e size v' m news → Below w.heap.size w w' → K (a.put o.dst v') w') : o.wp P a w K Q := by
  refine wp_app_empty hE s x ho hs hx hax hl h1 hn fun v' w' h2 h3 => h v' w' ?_ h3
  rcases h2 with ⟨rfl, rfl⟩ | h2
  · have : news = [] := by simpa using hl
    subst this
    exact ⟨by simp, .inr ⟨g, 0, #[], rfl, hbg, block_below hb h3, Nat.le_refl _, by decide, by simp, by simp⟩⟩
  · exact own_base h2 (Nat.le_trans hbg (Nat.le_of_lt (Array.getElem?_eq_some_iff.1 hb).1))
end Go.Proofs.Ytpndngcopfpdgaa
