/- One element appended to a row of the call's own, told more exactly: in its block the place behind the elements alone may change. -/
import Derived.Test.YtpkkjonajimefaaDoorU
import Derived.ArgAppend
set_option linter.unusedVariables false
set_option linter.unusedSimpArgs false
namespace Go.Proofs.YtpkkjonajimefaaDoor
open Go.RowKit

/-- One place of one block may have changed; there may be new blocks. -/
def ButO (row : Option Nat) (n : Nat) (w w' : World) : Prop := match row with | none => Below w.heap.size w w' | some g => But g [n] w w'
theorem below_of_grown {w w' : World} (h : w.grownBy w' none) : Below w.heap.size w w' := ⟨h.os, h.tape, h.output, h.size, fun k hk => h.block k hk (by simp)⟩
theorem own_snoc {w : World} {base n g cap : Nat} {e : TypeId} {xs : List Value} (h : w.ownsRow base e 1 (.slice (some ⟨g, 0, none⟩) n cap) n xs) (hn : n + 1 ≤ cap) (u : Value) :
    (w.setCell ⟨g, n, none⟩ u).ownsRow base e 1 (.slice (some ⟨g, 0, none⟩) (n + 1) cap) (n + 1) (xs ++ [u]) := by
  obtain ⟨h1, h2⟩ := h
  obtain ⟨g', cap', cur, e1, hb, hg, hc, hm, hs, ht⟩ := h2.resolve_left (by rintro ⟨h, _⟩; cases h)
  injection e1 with e1 e2 e3
  injection e1 with e1
  injection e1 with e1
  subst e1 e3
  rw [Nat.mul_one] at h1 hs ht
  refine ⟨by simp [h1], .inr ⟨g, cap, _, rfl, hb, heap_setCell_same _ _ _ _ _ _ hg, hn, hm, by simpa using hs, ?_⟩⟩
  rw [Nat.mul_one]
  apply List.ext_getElem?
  intro k
  by_cases hk : k < n
  · rw [List.getElem?_take_of_lt (by omega), List.getElem?_append_left (by omega), ← ht, List.getElem?_take_of_lt hk]
    simp [Array.getElem?_setIfInBounds, show n ≠ k by omega]
  · by_cases hk2 : k = n
    · subst hk2
      rw [List.getElem?_take_of_lt (by omega), List.getElem?_append_right (by omega), h1]
      simp [Array.getElem?_setIfInBounds, show k < cur.size by omega]
    · rw [List.getElem?_eq_none (by simp; omega), List.getElem?_eq_none (by simp; omega)]
theorem wp_app_but {P : Program} {w : World} {o : Oper} {a : Act} {K : Act → World → Prop} {Q : Exit → Act → World → Prop} {t e : TypeId} {bytes : Nat} (hE : Elt P t e 1 bytes) (s x : Operand)
    (ho : o.op = .call { callee := .builtin .append, args := #[s, x], argTypes := #[t, t] }) {v : Value} {n base bx : Nat} {xs : List Value} {u : Value} {T : TypeId} (hs : a.eval s = v) (hx : a.eval x = .slice (some ⟨bx, 0, none⟩) 1 1)
    (hown : w.ownsRow base e 1 v n xs) (hb : w.heap[bx]? = some (.cells #[u] T (0, 0))) (hu : u.oneCell' = true) (hn : n < 1099511627776) (hbase : base ≤ w.heap.size)
    (h : ∀ v' w', w'.ownsRow base e 1 v' (n + 1) (xs ++ [u]) → ButO v.ownBlock n w w' → K (a.put o.dst v') w') : o.wp P a w K Q := by
  obtain ⟨q1, q2, q3, i, z, q4, q5, q6, q7, q8⟩ := hE
  have hbb : (n + 1) * bytes ≤ 1099511627776 * 128 := Nat.mul_le_mul (by omega) q3
  rcases own_forms hown with ⟨rfl, rfl, rfl⟩ | ⟨g, cap, rfl, hgb, hgs⟩
  · exact wp_append_own w s x t ho base e i z 1 bytes q1 q4 q5 q6 q7 q8 (by decide) _ 0 [] hs hown ⟨bx, 0, none⟩ 1 1 [u] hx rfl (World.news_of_block hb) (by simp [hu]) (by decide) (by omega) hbase fun v' w' a b _ => h v' w' a (below_of_grown b)
  · obtain ⟨_, cap', cur, e1, _, hg, hc, hm, hsz, ht⟩ := hown.2.resolve_left (by rintro ⟨h, _⟩; cases h)
    injection e1 with e1 e2 e3
    injection e1 with e1
    injection e1 with e1
    subst e1 e3
    by_cases hroom : n + 1 ≤ cap
    · have hr := run_append_room_cells (P := P) w t o.type e i q1 q4 g 0 n cap ⟨bx, 0, none⟩ 1 1 [u] (by rw [q6]; rfl) (World.news_of_block hb) (by simp [hu]) hroom
        (fun j hj => by
          obtain rfl : j = 0 := by simpa using hj
          rw [q6]
          have : cur[0 + n * 1 + 0]? = some cur[n] := by rw [show 0 + n * 1 + 0 = n by omega]; exact Array.getElem?_eq_getElem (by omega)
          rw [cell_of_block hg _ _ this]
          rfl) (fun j hj => free_of_block hg _)
      have e : w.setCells g (0 + n * i.size) [u] = w.setCell ⟨g, n, none⟩ u := by
        rw [q6, show 0 + n * 1 = n by omega]
        rfl
      rw [e] at hr
      unfold Oper.wp execOp
      simp only [ho, resolve, invoke, builtin, Sem.run_bind, Sem.run_pure, Result.andThen_ok, List.map_toArray, List.map_cons, List.map_nil, hs, hx, hr]
      exact h _ _ (own_snoc hown hroom u) (But.set w g n u)
    · obtain ⟨v', w', hr, r1, r2⟩ := run_append_arg_grows (P := P) w t o.type e i z 1 bytes q1 q4 q5 q6 q7 q8 (by decide) ⟨g, 0, none⟩ n cap xs hown.1 (own_cells hown) ⟨bx, 0, none⟩ 1 1 [u] rfl (World.news_of_block hb) (by omega) (by unfold maxLen; omega) (by omega)
      unfold Oper.wp execOp
      simp only [ho, resolve, invoke, builtin, Sem.run_bind, Sem.run_pure, Result.andThen_ok, List.map_toArray, List.map_cons, List.map_nil, hs, hx, hr]
      exact h _ _ (own_base r1 hbase) (But.of_below (below_of_grown r2))
theorem list_app_but {P : Program} {w : World} {ops : Array Oper} {rest : List Oper} {o : Oper} {a : Act} {Q : Exit → Act → World → Prop} {t e : TypeId} {bytes : Nat} (hE : Elt P t e 1 bytes) (s x : Operand)
    (hgd : o.guard = none) (ho : o.op = .call { callee := .builtin .append, args := #[s, x], argTypes := #[t, t] }) {v : Value} {n base bx : Nat} {xs : List Value} {u : Value} {T : TypeId} (hs : a.eval s = v) (hx : a.eval x = .slice (some ⟨bx, 0, none⟩) 1 1)
    (hown : w.ownsRow base e 1 v n xs) (hb : w.heap[bx]? = some (.cells #[u] T (0, 0))) (hu : u.oneCell' = true) (hn : n < 1099511627776) (hbase : base ≤ w.heap.size)
    (h : ∀ v' w', w'.ownsRow base e 1 v' (n + 1) (xs ++ [u]) → ButO v.ownBlock n w w' → wpList P ops Q rest (a.put o.dst v') w') : wpList P ops Q (o :: rest) a w :=
  wpList_plain hgd fun _ hK => wp_app_but hE s x ho hs hx hown hb hu hn hbase fun v' w' h2 h3 => hK _ _ (h v' w' h2 h3)

/-- Messages without peers. -/
def Bare (ms : List MsgM) : Prop := ∀ i, i < ms.length → (ms.getD i noMsg).peers = []
theorem butO_still {row : Option Nat} {n : Nat} {w w' : World} {T : TypeId} (h : ButO row n w w') (hT : ∀ g, row = some g → ∃ cs, w.heap[g]? = some (.cells cs T (0, 0))) : Still (fun e => e ≠ T) w w' := by
  cases row with
  | none => exact Still.of_below h
  | some g =>
    obtain ⟨cs, hc⟩ := hT g rfl
    exact But.still h hc (by simp)
theorem own_row {w : World} {base n size : Nat} {e : TypeId} {v : Value} {xs : List Value} (h : w.ownsRow base e size v n xs) : ∀ g, v.ownBlock = some g → ∃ cs, w.heap[g]? = some (.cells cs e (0, 0)) := by
  intro g hg
  rcases h.2 with ⟨rfl, _⟩ | ⟨g', cap, cur, rfl, _, hh, _⟩
  · simp [Value.ownBlock] at hg
  · have : g' = g := by simpa [Value.ownBlock] using hg
    subst this
    exact ⟨cur, hh⟩
/-- An empty row stays. -/
theorem own_none {row : Option Nat} {n base : Nat} {w w' : World} {e : TypeId} {v : Value} (h : w.ownsRow base e 1 v 0 []) (k : ButO row n w w') : w'.ownsRow base e 1 v 0 [] := by
  cases row with
  | none => exact own_below h k
  | some g =>
    refine ⟨h.1, ?_⟩
    rcases h.2 with h2 | ⟨g', cap, cur, rfl, hb, hh, hc, hm, hs, ht⟩
    · exact .inl h2
    · by_cases e1 : g' = g
      · subst e1
        obtain ⟨cs', h3, h4, _⟩ := But.row k _ _ hh
        exact .inr ⟨g', cap, cs', rfl, hb, h3, hc, hm, by rw [h4]; exact hs, by simp⟩
      · exact .inr ⟨g', cap, cur, rfl, hb, (But.block k g' (Array.getElem?_eq_some_iff.1 hh).1 e1).trans hh, hc, hm, hs, ht⟩
theorem MsgAt.butO {row : Option Nat} {n base : Nat} {w w' : World} {v : Value} {m : MsgM} (h : MsgAt base w v m) (hp : m.peers = []) (k : ButO row n w w') (hs : Still (fun e => e ≠ 3) w w') : MsgAt base w' v m := by
  obtain ⟨u, x, e, ⟨c, h1, h2⟩, h3⟩ := h
  refine ⟨u, x, e, ⟨c, own_still h1 hs (by decide), fun i hi => ?_⟩, ?_⟩
  · obtain ⟨u', v', e', h4, h5⟩ := h2 i hi
    exact ⟨u', v', e', own_still h4 hs (by decide), own_still h5 hs (by decide)⟩
  · rw [hp] at h3 ⊢
    exact own_none h3 k
theorem PostAt.butO {row : Option Nat} {n B : Nat} {w w' : World} {p : Value} {ms : List MsgM} (h : PostAt B w p ms) (hp : Bare ms) (k : ButO row n w w') (hs : Still (fun e => e ≠ 3) w w') : PostAt B w' p ms := by
  obtain ⟨b, r, e, h0, h1, h2, sl, vs, h3, h4, h5⟩ := h
  exact ⟨b, r, e, h0, hs _ _ _ (by decide) h1, h2, sl, vs, hs _ _ _ (by decide) h3, own_still h4 hs (by decide), fun i hi => ⟨(h5 i hi).1.butO (hp i hi) k hs, (h5 i hi).2⟩⟩
theorem acks_bare (k : Nat) : Bare (acks k) := fun i hi => by rw [acks_len] at hi; rw [acks_get hi]; rfl
theorem butO_below {row : Option Nat} {n B : Nat} {w w' w0 : World} (h : ButO row n w w') (hb : Below B w0 w) (hB : B ≤ w.heap.size) (hr : ∀ g, row = some g → B ≤ g) : Below B w0 w' := by
  cases row with
  | none => exact hb.trans (Below.mono h hB)
  | some g => exact Below.but hb h (hr g rfl) hB

/-- What appending to a new empty slice gives. -/
theorem wp_app_empty {P : Program} {w : World} {o : Oper} {a : Act} {K : Act → World → Prop} {Q : Exit → Act → World → Prop} {t e : TypeId} {size bytes : Nat} (hE : Elt P t e size bytes) (s x : Operand)
    (ho : o.op = .call { callee := .builtin .append, args := #[s, x], argTypes := #[t, t] }) {g m c : Nat} {ax : Option Addr} {news : List Value} (hs : a.eval s = .slice (some ⟨g, 0, none⟩) 0 0) (hx : a.eval x = .slice ax m c)
    (hax : m = 0 ∨ ∃ A, ax = some A ∧ ∀ j u, news[j]? = some u → w.cell? (A.add j) = some u) (hl : news.length = m * size) (h1 : ∀ u ∈ news, u.oneCell' = true) (hn : m ≤ 1099511627776)
    (h : ∀ v' w', (m = 0 ∧ v' = .slice (some ⟨g, 0, none⟩) 0 0 ∨ w'.ownsRow w.heap.size e size v' m news) → Below w.heap.size w w' → K (a.put o.dst v') w') : o.wp P a w K Q := by
  obtain ⟨q1, q2, q3, i, z, q4, q5, q6, q7, q8⟩ := hE
  have hbb : m * bytes ≤ 1099511627776 * 128 := Nat.mul_le_mul hn q3
  by_cases hm : m = 0
  · subst hm
    have hr : (Builtin.append_ #[t, t] o.type #[.slice (some ⟨g, 0, none⟩) 0 0, .slice ax 0 c]).run P w = .ok (.slice (some ⟨g, 0, none⟩) 0 0) w := by
      cases ax <;> simp [Builtin.append_, run_underlying q1, sizeOf, typeInfo, q4, Builtin.lenOf, Builtin.firstCells, storeCells, loadCells, loadCellsFrom]
    unfold Oper.wp execOp
    simp only [ho, resolve, invoke, builtin, Sem.run_bind, Sem.run_pure, Result.andThen_ok, List.map_toArray, List.map_cons, List.map_nil, hs, hx, hr]
    exact h _ _ (.inl ⟨rfl, rfl⟩) (Below.refl _ _)
  · obtain ⟨A, rfl, hA⟩ := hax.resolve_left hm
    obtain ⟨v', w', hr, r1, r2⟩ := run_append_arg_grows (P := P) w t o.type e i z size bytes q1 q4 q5 q6 q7 q8 q2 ⟨g, 0, none⟩ 0 0 [] (by simp) (fun j u hu => by simp at hu) A m c news hl hA (by omega) (by unfold maxLen; omega) (by rw [Nat.zero_add]; omega)
    unfold Oper.wp execOp
    simp only [ho, resolve, invoke, builtin, Sem.run_bind, Sem.run_pure, Result.andThen_ok, List.map_toArray, List.map_cons, List.map_nil, hs, hx, hr]
    rw [Nat.zero_add, List.nil_append] at r1
    exact h _ _ (.inr r1) (below_of_grown r2)
theorem list_app_empty {P : Program} {w : World} {ops : Array Oper} {rest : List Oper} {o : Oper} {a : Act} {Q : Exit → Act → World → Prop} {t e : TypeId} {size bytes : Nat} (hE : Elt P t e size bytes) (s x : Operand)
    (hgd : o.guard = none) (ho : o.op = .call { callee := .builtin .append, args := #[s, x], argTypes := #[t, t] }) {g m c : Nat} {ax : Option Addr} {news : List Value} (hs : a.eval s = .slice (some ⟨g, 0, none⟩) 0 0) (hx : a.eval x = .slice ax m c)
    (hax : m = 0 ∨ ∃ A, ax = some A ∧ ∀ j u, news[j]? = some u → w.cell? (A.add j) = some u) (hl : news.length = m * size) (h1 : ∀ u ∈ news, u.oneCell' = true) (hn : m ≤ 1099511627776)
    (h : ∀ v' w', (m = 0 ∧ v' = .slice (some ⟨g, 0, none⟩) 0 0 ∨ w'.ownsRow w.heap.size e size v' m news) → Below w.heap.size w w' → wpList P ops Q rest (a.put o.dst v') w') : wpList P ops Q (o :: rest) a w :=
  wpList_plain hgd fun _ hK => wp_app_empty hE s x ho hs hx hax hl h1 hn fun v' w' h2 h3 => hK _ _ (h v' w' h2 h3)
/-- The same as list_appends, from any address. -/
theorem list_appendsA {P : Program} {w : World} {ops : Array Oper} {rest : List Oper} {o : Oper} {a : Act} {Q : Exit → Act → World → Prop} {t e : TypeId} {size bytes : Nat} (hE : Elt P t e size bytes) (s x : Operand)
    (hgd : o.guard = none) (ho : o.op = .call { callee := .builtin .append, args := #[s, x], argTypes := #[t, t] }) {v : Value} {n m base cap : Nat} {ad : Addr} {xs news : List Value} (hs : a.eval s = v) (hx : a.eval x = .slice (some ad) m cap)
    (hown : w.ownsRow base e size v n xs) (hl : news.length = m * size) (hnews : ∀ j u, news[j]? = some u → w.cell? (ad.add j) = some u) (h1 : ∀ u ∈ news, u.oneCell' = true) (hn : n + m ≤ 1099511627776) (hbase : base ≤ w.heap.size)
    (h : ∀ v' w', w'.ownsRow base e size v' (n + m) (xs ++ news) → w.grownBy w' v.ownBlock → wpList P ops Q rest (a.put o.dst v') w') :
    wpList P ops Q (o :: rest) a w := by
  obtain ⟨q1, q2, q3, i, z, q4, q5, q6, q7, q8⟩ := hE
  have hbb : (n + m) * bytes ≤ 1099511627776 * 128 := Nat.mul_le_mul hn q3
  exact wpList_append_own w hgd s x t ho base e i z size bytes q1 q4 q5 q6 q7 q8 q2 v n xs hs hown ad m cap news hx hl hnews h1 (by simp only [maxLen]; omega) (by omega) hbase fun v' w' a b _ => h v' w' a b

/-- Appending to a new empty slice gives a row of one's own, from block b on. -/
theorem list_app_new {P : Program} {w : World} {ops : Array Oper} {rest : List Oper} {o : Oper} {a : Act} {Q : Exit → Act → World → Prop} {t e : TypeId} {size bytes : Nat} (hE : Elt P t e size bytes) (s x : Operand)
    (hgd : o.guard = none) (ho : o.op = .call { callee := .builtin .append, args := #[s, x], argTypes := #[t, t] }) {g m c b : Nat} {ax : Option Addr} {news : List Value} (hs : a.eval s = .slice (some ⟨g, 0, none⟩) 0 0) (hx : a.eval x = .slice ax m c)
    (hb : w.heap[g]? = some (.cells #[] e (0, 0))) (hbg : b ≤ g)
    (hax : m = 0 ∨ ∃ A, ax = some A ∧ ∀ j u, news[j]? = some u → w.cell? (A.add j) = some u) (hl : news.length = m * size) (h1 : ∀ u ∈ news, u.oneCell' = true) (hn : m ≤ 1099511627776)
    (h : ∀ v' w', w'.ownsRow b e size v' m news → Below w.heap.size w w' → wpList P ops Q rest (a.put o.dst v') w') : wpList P ops Q (o :: rest) a w := by
  refine list_app_empty hE s x hgd ho hs hx hax hl h1 hn fun v' w' h2 h3 => h v' w' ?_ h3
  rcases h2 with ⟨rfl, rfl⟩ | h2
  · have : news = [] := by simpa using hl
    subst this
    exact ⟨by simp, .inr ⟨g, 0, #[], rfl, hbg, block_below hb h3, Nat.le_refl _, by decide, by simp, by simp⟩⟩
  · exact own_base h2 (Nat.le_trans hbg (Nat.le_of_lt (Array.getElem?_eq_some_iff.1 hb).1))
/-- What stands in a row that one only reads, as append asks it. -/
theorem own_ax {w : World} {b n size c : Nat} {e : TypeId} {a : Option Addr} {xs : List Value} (h : w.ownsRow b e size (.slice a n c) n xs) : n = 0 ∨ ∃ A, a = some A ∧ ∀ j u, xs[j]? = some u → w.cell? (A.add j) = some u := by
  rcases own_forms h with ⟨_, h0, _⟩ | ⟨g, cap, e, _⟩
  · exact .inl h0
  · injection e with e1 e2 e3
    subst e1 e3
    exact .inr ⟨_, rfl, own_cells h⟩
end Go.Proofs.YtpkkjonajimefaaDoor
