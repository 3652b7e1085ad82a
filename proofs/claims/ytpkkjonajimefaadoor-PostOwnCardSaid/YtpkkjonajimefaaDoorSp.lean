/- Append to a row of the call's own, told exactly: the row's block keeps its size and its first elements. -/
import Derived.Test.YtpkkjonajimefaaDoorRc
set_option linter.unusedVariables false
set_option linter.unusedSimpArgs false
namespace Go.Proofs.YtpkkjonajimefaaDoor
open Go.RowKit

/-- Blocks of type T from number N on may have changed behind their first n cells; nothing else that was there. -/
structure Spill (N n : Nat) (T : TypeId) (w w' : World) : Prop where
  os : w'.os = w.os
  tape : w'.tape = w.tape
  output : w'.output = w.output
  size : w.heap.size ≤ w'.heap.size
  block : ∀ k, k < w.heap.size → w'.heap[k]? = w.heap[k]? ∨ (N ≤ k ∧ ∃ cs cs', w.heap[k]? = some (.cells cs T (0, 0)) ∧ w'.heap[k]? = some (.cells cs' T (0, 0)) ∧ cs'.size = cs.size ∧ cs'.toList.take n = cs.toList.take n)
theorem Spill.of_below {N n : Nat} {T : TypeId} {w w' : World} (h : Below w.heap.size w w') : Spill N n T w w' := ⟨h.os, h.tape, h.output, h.size, fun k hk => .inl (h.block k hk)⟩
theorem Spill.below {N n B : Nat} {T : TypeId} {w w' : World} (h : Spill N n T w w') (hB : B ≤ w.heap.size) (hN : B ≤ N) : Below B w w' :=
  ⟨h.os, h.tape, h.output, h.size, fun k hk => (h.block k (Nat.lt_of_lt_of_le hk hB)).resolve_right fun h => by omega⟩
theorem Spill.still {N n : Nat} {T : TypeId} {w w' : World} (h : Spill N n T w w') : Still (fun e => e ≠ T) w w' := by
  intro k cs e he hk
  rcases h.block k (Array.getElem?_eq_some_iff.1 hk).1 with h1 | ⟨_, c1, c2, h1, _⟩
  · exact h1.trans hk
  · rw [hk] at h1
    injection h1 with h1
    injection h1 with _ h1
    exact absurd h1 he
theorem Spill.trans {N n : Nat} {T : TypeId} {a b c : World} (h : Spill N n T a b) (k : Spill N n T b c) : Spill N n T a c := by
  refine ⟨k.os.trans h.os, k.tape.trans h.tape, k.output.trans h.output, Nat.le_trans h.size k.size, fun i hi => ?_⟩
  rcases k.block i (Nat.lt_of_lt_of_le hi h.size) with h1 | ⟨h0, c1, c2, h1, h2, h3, h4⟩
  · rcases h.block i hi with h5 | ⟨h0, d1, d2, h5, h6, h7, h8⟩
    · exact .inl (h1.trans h5)
    · exact .inr ⟨h0, d1, d2, h5, h1.trans h6, h7, h8⟩
  · rcases h.block i hi with h5 | ⟨h0, d1, d2, h5, h6, h7, h8⟩
    · exact .inr ⟨h0, c1, c2, h5 ▸ h1, h2, h3, h4⟩
    · rw [h6] at h1
      injection h1 with h1
      injection h1 with h1 _
      subst h1
      exact .inr ⟨h0, d1, c2, h5, h2, h3.trans h7, h4.trans h8⟩
theorem Spill.own {N n b m size : Nat} {T : TypeId} {w w' : World} {e : TypeId} {v : Value} {xs : List Value} (h : Spill N n T w w') (ho : w.ownsRow b e size v m xs) (hm : e = T → m * size ≤ n) : w'.ownsRow b e size v m xs := by
  refine ⟨ho.1, ?_⟩
  rcases ho.2 with h2 | ⟨g, cap, cur, rfl, hb, hg, hc, hx, hs, ht⟩
  · exact .inl h2
  · rcases h.block g (Array.getElem?_eq_some_iff.1 hg).1 with h1 | ⟨_, c1, c2, h1, h2, h3, h4⟩
    · exact .inr ⟨g, cap, cur, rfl, hb, h1.trans hg, hc, hx, hs, ht⟩
    · rw [hg] at h1
      injection h1 with h1
      injection h1 with h1 h5
      subst h1 h5
      refine .inr ⟨g, cap, c2, rfl, hb, h2, hc, hx, h3.trans hs, ?_⟩
      have hmn := hm rfl
      have e1 : (c2.toList.take n).take (m * size) = (cur.toList.take n).take (m * size) := by rw [h4]
      rw [List.take_take, List.take_take, Nat.min_eq_left hmn] at e1
      rw [e1, ht]

theorem keep_setCells (g : Nat) : ∀ (vs : List Value) (o : Nat) (w : World), (w.setCells g o vs).os = w.os ∧ (w.setCells g o vs).tape = w.tape ∧ (w.setCells g o vs).output = w.output ∧ w.heap.size ≤ (w.setCells g o vs).heap.size ∧ ∀ k, k < w.heap.size → k ≠ g → (w.setCells g o vs).heap[k]? = w.heap[k]?
  | [], _, w => ⟨rfl, rfl, rfl, Nat.le_refl _, fun _ _ _ => rfl⟩
  | v :: r, o, w => by
    have hb := But.set w g o v
    obtain ⟨h1, h2, h3, h4, h5⟩ := keep_setCells g r (o + 1) (w.setCell ⟨g, o, none⟩ v)
    exact ⟨h1.trans hb.os, h2.trans hb.tape, h3.trans hb.output, Nat.le_trans hb.size h4, fun k hk hne => (h5 k (Nat.lt_of_lt_of_le hk hb.size) hne).trans (hb.block k hk hne)⟩
theorem own_laid {w : World} {base n m g cap size : Nat} {e : TypeId} {xs news : List Value} {cur : Array Value} (hg : w.heap[g]? = some (.cells cur e (0, 0))) (h : w.ownsRow base e size (.slice (some ⟨g, 0, none⟩) n cap) n xs) (hn : n + m ≤ cap) (hl : news.length = m * size) :
    (w.setCells g (n * size) news).ownsRow base e size (.slice (some ⟨g, 0, none⟩) (n + m) cap) (n + m) (xs ++ news) ∧ Spill base (n * size) e w (w.setCells g (n * size) news) := by
  obtain ⟨h1, h2⟩ := h
  obtain ⟨g', cap', cur', e1, hb, hg', hc, hm, hs, ht⟩ := h2.resolve_left (by rintro ⟨h, _⟩; cases h)
  injection e1 with e1 e2 e3
  injection e1 with e1
  injection e1 with e1
  subst e1 e3
  rw [hg] at hg'
  injection hg' with hg'
  injection hg' with hg' _
  subst hg'
  have hcs : (n + m) * size ≤ cap * size := Nat.mul_le_mul_right _ hn
  rw [Nat.add_mul] at hcs
  have hh := heap_setCells g e news (n * size) w cur hg
  refine ⟨⟨by rw [List.length_append, h1, hl, Nat.add_mul], .inr ⟨g, cap, _, rfl, hb, hh, hn, hm, by rw [laid_size]; exact hs, ?_⟩⟩, ?_⟩
  · apply List.ext_getElem?
    intro k
    rw [Nat.add_mul]
    by_cases hk : k < n * size
    · rw [List.getElem?_take_of_lt (by omega), List.getElem?_append_left (by omega), ← ht, List.getElem?_take_of_lt hk, Array.getElem?_toList, laid_get _ _ _ _ (by omega), if_neg (by omega), Array.getElem?_toList]
    · by_cases hk2 : k < n * size + m * size
      · rw [List.getElem?_take_of_lt hk2, List.getElem?_append_right (by omega), h1, Array.getElem?_toList, laid_get _ _ _ _ (by omega), if_pos (by omega)]
      · rw [List.getElem?_eq_none (by simp; omega), List.getElem?_eq_none (by simp; omega)]
  · have hgl := (Array.getElem?_eq_some_iff.1 hg).1
    obtain ⟨k1, k2, k3, k4, k5⟩ := keep_setCells g news (n * size) w
    refine ⟨k1, k2, k3, k4, fun k hk => ?_⟩
    · by_cases e : k = g
      · subst e
        refine .inr ⟨hb, cur, _, hg, hh, laid_size _ _ _, ?_⟩
        apply List.ext_getElem?
        intro q
        by_cases hq : q < n * size
        · rw [List.getElem?_take_of_lt hq, List.getElem?_take_of_lt hq, Array.getElem?_toList, Array.getElem?_toList, laid_get _ _ _ _ (by omega), if_neg (by omega)]
        · rw [List.getElem?_eq_none (by simp; omega), List.getElem?_eq_none (by simp; omega)]
      · exact .inl (k5 k hk e)

theorem wp_app_spill {P : Program} {w : World} {o : Oper} {a : Act} {K : Act → World → Prop} {Q : Exit → Act → World → Prop} {t e : TypeId} {size bytes : Nat} (hE : Elt P t e size bytes) (s x : Operand)
    (ho : o.op = .call { callee := .builtin .append, args := #[s, x], argTypes := #[t, t] }) {v : Value} {n m base c : Nat} {ad : Addr} {xs news : List Value} (hs : a.eval s = v) (hx : a.eval x = .slice (some ad) m c)
    (hown : w.ownsRow base e size v n xs) (hl : news.length = m * size) (hnews : ∀ j u, news[j]? = some u → w.cell? (ad.add j) = some u) (h1 : ∀ u ∈ news, u.oneCell' = true) (hn : n + m ≤ 1099511627776) (hbase : base ≤ w.heap.size)
    (h : ∀ v' w', w'.ownsRow base e size v' (n + m) (xs ++ news) → Spill base (n * size) e w w' → K (a.put o.dst v') w') : o.wp P a w K Q := by
  obtain ⟨q1, q2, q3, i, z, q4, q5, q6, q7, q8⟩ := hE
  have hbb : (n + m) * bytes ≤ 1099511627776 * 128 := Nat.mul_le_mul hn q3
  rcases own_forms hown with ⟨rfl, rfl, rfl⟩ | ⟨g, cap, rfl, hgb, hgs⟩
  · exact wp_append_own w s x t ho base e i z size bytes q1 q4 q5 q6 q7 q8 q2 _ 0 [] hs hown ad m c news hx hl hnews h1 (by unfold maxLen; omega) (by omega) hbase fun v' w' a b _ => h v' w' a (Spill.of_below (below_of_grown b))
  · obtain ⟨_, cap', cur, e1, _, hg, hc, hm, hsz, ht⟩ := hown.2.resolve_left (by rintro ⟨h, _⟩; cases h)
    injection e1 with e1 e2 e3
    injection e1 with e1
    injection e1 with e1
    subst e1 e3
    by_cases hroom : n + m ≤ cap
    · have hms : (n + m) * size ≤ cap * size := Nat.mul_le_mul_right _ hroom
      rw [Nat.add_mul] at hms
      have hr := run_append_room_cells (P := P) w t o.type e i q1 q4 g 0 n cap ad m c news (by rw [q6]; exact hl) hnews h1 hroom
        (fun j hj => by
          rw [q6]
          have : cur[0 + n * size + j]? = some cur[n * size + j] := by rw [Nat.zero_add]; exact Array.getElem?_eq_getElem (by omega)
          rw [cell_of_block hg _ _ this]
          rfl) (fun j hj => free_of_block hg _)
      rw [q6, Nat.zero_add] at hr
      obtain ⟨r1, r2⟩ := own_laid hg hown hroom hl
      unfold Oper.wp execOp
      simp only [ho, resolve, invoke, builtin, Sem.run_bind, Sem.run_pure, Result.andThen_ok, List.map_toArray, List.map_cons, List.map_nil, hs, hx, hr]
      exact h _ _ r1 r2
    · obtain ⟨v', w', hr, r1, r2⟩ := run_append_arg_grows (P := P) w t o.type e i z size bytes q1 q4 q5 q6 q7 q8 q2 ⟨g, 0, none⟩ n cap xs hown.1 (own_cells hown) ad m c news hl hnews (by omega) (by unfold maxLen; omega) (by omega)
      unfold Oper.wp execOp
      simp only [ho, resolve, invoke, builtin, Sem.run_bind, Sem.run_pure, Result.andThen_ok, List.map_toArray, List.map_cons, List.map_nil, hs, hx, hr]
      exact h _ _ (own_base r1 hbase) (Spill.of_below (below_of_grown r2))
theorem wp_app_full {P : Program} {w : World} {o : Oper} {a : Act} {K : Act → World → Prop} {Q : Exit → Act → World → Prop} {t e : TypeId} {size bytes : Nat} (hE : Elt P t e size bytes) (s x : Operand)
    (ho : o.op = .call { callee := .builtin .append, args := #[s, x], argTypes := #[t, t] }) {v : Value} {n m base c : Nat} {ad : Addr} {xs news : List Value} (hs : a.eval s = v) (hx : a.eval x = .slice (some ad) m c)
    (hown : w.ownsRow base e size v n xs) (hl : news.length = m * size) (hnews : ∀ j u, news[j]? = some u → w.cell? (ad.add j) = some u) (h1 : ∀ u ∈ news, u.oneCell' = true) (hn : n + m ≤ 1099511627776) (hbase : base ≤ w.heap.size)
    (h : ∀ v' w', w'.ownsRow base e size v' (n + m) (xs ++ news) → Spill base (n * size) e w w' → w.grownBy w' v.ownBlock → (v'.ownBlock = v.ownBlock ∨ ∀ g, v'.ownBlock = some g → w.heap.size ≤ g) → K (a.put o.dst v') w') : o.wp P a w K Q := by
  obtain ⟨q1, q2, q3, i, z, q4, q5, q6, q7, q8⟩ := hE
  have hbb : (n + m) * bytes ≤ 1099511627776 * 128 := Nat.mul_le_mul hn q3
  rcases own_forms hown with ⟨rfl, rfl, rfl⟩ | ⟨g, cap, rfl, hgb, hgs⟩
  · exact wp_append_own w s x t ho w.heap.size e i z size bytes q1 q4 q5 q6 q7 q8 q2 _ 0 [] hs (World.ownsRow_nil _ _ _ _) ad m c news hx hl hnews h1 (by unfold maxLen; omega) (by omega) (Nat.le_refl _) fun v' w' a b _ => h v' w' (own_base a hbase) (Spill.of_below (below_of_grown b)) b (.inr fun g hg => (a.lt g hg).1)
  · obtain ⟨_, cap', cur, e1, _, hg, hc, hm, hsz, ht⟩ := hown.2.resolve_left (by rintro ⟨h, _⟩; cases h)
    injection e1 with e1 e2 e3
    injection e1 with e1
    injection e1 with e1
    subst e1 e3
    by_cases hroom : n + m ≤ cap
    · have hms : (n + m) * size ≤ cap * size := Nat.mul_le_mul_right _ hroom
      rw [Nat.add_mul] at hms
      have hr := run_append_room_cells (P := P) w t o.type e i q1 q4 g 0 n cap ad m c news (by rw [q6]; exact hl) hnews h1 hroom
        (fun j hj => by
          rw [q6]
          have : cur[0 + n * size + j]? = some cur[n * size + j] := by rw [Nat.zero_add]; exact Array.getElem?_eq_getElem (by omega)
          rw [cell_of_block hg _ _ this]
          rfl) (fun j hj => free_of_block hg _)
      rw [q6, Nat.zero_add] at hr
      obtain ⟨r1, r2⟩ := own_laid hg hown hroom hl
      unfold Oper.wp execOp
      simp only [ho, resolve, invoke, builtin, Sem.run_bind, Sem.run_pure, Result.andThen_ok, List.map_toArray, List.map_cons, List.map_nil, hs, hx, hr]
      obtain ⟨k1, k2, k3, k4, k5⟩ := keep_setCells g news (n * size) w
      exact h _ _ r1 r2 ⟨k1, k2, k3, k4, fun k hk hne => k5 k hk fun e => hne (by rw [e]; rfl)⟩ (.inl rfl)
    · obtain ⟨v', w', hr, r1, r2⟩ := run_append_arg_grows (P := P) w t o.type e i z size bytes q1 q4 q5 q6 q7 q8 q2 ⟨g, 0, none⟩ n cap xs hown.1 (own_cells hown) ad m c news hl hnews (by omega) (by unfold maxLen; omega) (by omega)
      unfold Oper.wp execOp
      simp only [ho, resolve, invoke, builtin, Sem.run_bind, Sem.run_pure, Result.andThen_ok, List.map_toArray, List.map_cons, List.map_nil, hs, hx, hr]
      exact h _ _ (own_base r1 hbase) (Spill.of_below (below_of_grown r2)) ⟨r2.os, r2.tape, r2.output, r2.size, fun k hk _ => r2.block k hk (by simp)⟩ (.inr fun g hg => (r1.lt g hg).1)
theorem list_app_spill {P : Program} {w : World} {ops : Array Oper} {rest : List Oper} {o : Oper} {a : Act} {Q : Exit → Act → World → Prop} {t e : TypeId} {size bytes : Nat} (hE : Elt P t e size bytes) (s x : Operand)
    (hgd : o.guard = none) (ho : o.op = .call { callee := .builtin .append, args := #[s, x], argTypes := #[t, t] }) {v : Value} {n m base c : Nat} {ad : Addr} {xs news : List Value} (hs : a.eval s = v) (hx : a.eval x = .slice (some ad) m c)
    (hown : w.ownsRow base e size v n xs) (hl : news.length = m * size) (hnews : ∀ j u, news[j]? = some u → w.cell? (ad.add j) = some u) (h1 : ∀ u ∈ news, u.oneCell' = true) (hn : n + m ≤ 1099511627776) (hbase : base ≤ w.heap.size)
    (h : ∀ v' w', w'.ownsRow base e size v' (n + m) (xs ++ news) → Spill base (n * size) e w w' → wpList P ops Q rest (a.put o.dst v') w') : wpList P ops Q (o :: rest) a w :=
  wpList_plain hgd fun _ hK => wp_app_spill hE s x ho hs hx hown hl hnews h1 hn hbase fun v' w' h2 h3 => hK _ _ (h v' w' h2 h3)
/-- The same for a new empty slice, as one operation. -/
theorem wp_app_new {P : Program} {w : World} {o : Oper} {a : Act} {K : Act → World → Prop} {Q : Exit → Act → World → Prop} {t e : TypeId} {size bytes : Nat} (hE : Elt P t e size bytes) (s x : Operand)
    (ho : o.op = .call { callee := .builtin .append, args := #[s, x], argTypes := #[t, t] }) {g m c b : Nat} {ax : Option Addr} {news : List Value} (hs : a.eval s = .slice (some ⟨g, 0, none⟩) 0 0) (hx : a.eval x = .slice ax m c)
    (hb : w.heap[g]? = some (.cells #[] e (0, 0))) (hbg : b ≤ g)
    (hax : m = 0 ∨ ∃ A, ax = some A ∧ ∀ j u, news[j]? = some u → w.cell? (A.add j) = some u) (hl : news.length = m * size) (h1 : ∀ u ∈ news, u.oneCell' = true) (hn : m ≤ 1099511627776)
    (h : ∀ v' w', w'.ownsRow b e size v' m news → Below w.heap.size w w' → K (a.put o.dst v') w') : o.wp P a w K Q := by
  refine wp_app_empty hE s x ho hs hx hax hl h1 hn fun v' w' h2 h3 => h v' w' ?_ h3
  rcases h2 with ⟨rfl, rfl⟩ | h2
  · have : news = [] := by simpa using hl
    subst this
    exact ⟨by simp, .inr ⟨g, 0, #[], rfl, hbg, block_below hb h3, Nat.le_refl _, by decide, by simp, by simp⟩⟩
  · exact own_base h2 (Nat.le_trans hbg (Nat.le_of_lt (Array.getElem?_eq_some_iff.1 hb).1))
end Go.Proofs.YtpkkjonajimefaaDoor
