/- A message put into a bag in order. -/
import Derived.Test.YtpkkjonajimefaaDoorB
set_option linter.unusedVariables false
set_option linter.unusedSimpArgs false
namespace Go.Proofs.YtpkkjonajimefaaDoor
open Go.RowKit

/-- One row of interfaces may have grown. -/
def Grew (row : Option Nat) (w w' : World) : Prop := w.grownBy w' row ∧ Still (fun e => e ≠ 20) w w'
theorem Grew.refl (row : Option Nat) (w : World) : Grew row w w := ⟨⟨rfl, rfl, rfl, Nat.le_refl _, fun _ _ _ => rfl⟩, fun _ _ _ _ h => h⟩
theorem Grew.trans {row : Option Nat} {a b c : World} (h : Grew row a b) (k : Grew row b c) : Grew row a c :=
  ⟨⟨k.1.os.trans h.1.os, k.1.tape.trans h.1.tape, k.1.output.trans h.1.output, Nat.le_trans h.1.size k.1.size, fun i hi hne => (k.1.block i (Nat.lt_of_lt_of_le hi h.1.size) hne).trans (h.1.block i hi hne)⟩, h.2.trans k.2⟩
theorem Grew.of_below {row : Option Nat} {w w' : World} (h : Below w.heap.size w w') : Grew row w w' := ⟨⟨h.os, h.tape, h.output, h.size, fun k hk _ => h.block k hk⟩, Still.of_below h⟩
theorem Grew.of_grown {w w' : World} {base n : Nat} {v : Value} {xs : List Value} (h : w.ownsRow base 20 1 v n xs) (hg : w.grownBy w' v.ownBlock) : Grew v.ownBlock w w' := by
  refine ⟨hg, fun k cs e he hk => ?_⟩
  have hl : k < w.heap.size := (Array.getElem?_eq_some_iff.1 hk).1
  rw [hg.block k hl ?_, hk]
  intro hv
  rcases h.2 with ⟨rfl, _⟩ | ⟨g', cap, cur, rfl, _, hh, _⟩
  · simp [Value.ownBlock] at hv
  · have : k = g' := by simpa [Value.ownBlock] using hv
    subst this
    rw [hk] at hh
    injection hh with hh
    injection hh with _ hh
    exact he hh

theorem parts_any {w w' : World} (h : Still (fun e => e ≠ 20) w w') : Still Parts w w' := fun g cs e he hg => h g cs e (by rcases he with rfl | rfl | rfl <;> decide) hg
theorem news_of {w : World} {g : Nat} {u : Value} {T : TypeId} (h : w.heap[g]? = some (.cells #[u] T (0, 0))) : ∀ j v, [u][j]? = some v → w.cell? ((⟨g, 0, none⟩ : Addr).add j) = some v := World.news_of_block h
theorem step_appends {P : Program} {w : World} {o : Oper} {a : Act} {K : Act → World → Prop} {Q : Exit → Act → World → Prop} {t e : TypeId} {size bytes : Nat} (hE : Elt P t e size bytes) (s x : Operand)
    (ho : o.op = .call { callee := .builtin .append, args := #[s, x], argTypes := #[t, t] }) {v : Value} {n m base g cap : Nat} {xs news : List Value} (hs : a.eval s = v) (hx : a.eval x = .slice (some ⟨g, 0, none⟩) m cap)
    (hown : w.ownsRow base e size v n xs) (hl : news.length = m * size) (hnews : ∀ j u, news[j]? = some u → w.cell? ((⟨g, 0, none⟩ : Addr).add j) = some u) (h1 : ∀ u ∈ news, u.oneCell' = true) (hn : n + m ≤ 1099511627776) (hbase : base ≤ w.heap.size)
    (h : ∀ v' w', w'.ownsRow base e size v' (n + m) (xs ++ news) → w.grownBy w' v.ownBlock → K (a.put o.dst v') w') : o.wp P a w K Q := by
  obtain ⟨q1, q2, q3, i, z, q4, q5, q6, q7, q8⟩ := hE
  have hbb : (n + m) * bytes ≤ 1099511627776 * 128 := Nat.mul_le_mul hn q3
  exact wp_append_own w s x t ho base e i z size bytes q1 q4 q5 q6 q7 q8 q2 v n xs hs hown ⟨g, 0, none⟩ m cap news hx hl hnews h1 (by simp only [maxLen]; omega) (by omega) hbase fun v' w' a b _ => h v' w' a b

set_option maxHeartbeats 4000000 in
set_option maxRecDepth 100000 in
theorem rput_any (B : Nat) (w : World) (r : Nat) (ms : List MsgM) (h : BagAt B w r ms) (hB : B ≤ w.heap.size) (v : Value) (m : MsgM) (hm : MsgAt 0 w v m) (hf : m.few) : Calls Tryd.prog 86 #[.pointer (some ⟨r, 0, none⟩), v] w fun e w' =>
    e = .returned (.bool (decide (ms.length < 200))) ∧ BagAt B w' r (if ms.length < 200 then ms ++ [m] else ms) ∧ Below B w w' ∧ Still Rest w w' := by
  have HBAG := Lib.hid h
  obtain ⟨h0, sl, vs, h1, h2, h3⟩ := h
  obtain ⟨a, c, rfl⟩ := own_slicen h2
  have c0 : ∀ o, (w.alloc o).cell? ⟨r, 0, none⟩ = some (.slice a ms.length c) := fun o => cell_of_block (block_below h1 (below_alloc' (Below.refl _ _) _)) 0 _ rfl
  have HM := Lib.hid hm
  obtain ⟨u, x, ev, ⟨_, hq1, _⟩, hq2⟩ := hm
  obtain ⟨b1, d1, rfl⟩ := own_slicen hq1
  obtain ⟨b2, d2, rfl⟩ := own_slicen hq2
  subst ev
  have H1 := Lib.hid h1
  have H2 := Lib.hid h2
  have H3 := Lib.hid h3
  have HF := Lib.hid hf
  clear h1 h2 h3 hq1 hq2 hf
  by_cases hfull : 200 ≤ ms.length
  · have hfi : (200 : Int) ≤ ms.length := by omega
    rw [if_neg (by omega), show decide (ms.length < 200) = false from decide_eq_false (by omega)]
    go_enter Tryd.func86, Tryd.ntmps86
    go_wp2
    go_ret
    have hb : Below w.heap.size w (w.alloc (.cells #[.int .i64 m.kind, .int .i64 m.src, .int .i64 m.dst, .int .i64 m.gang, .slice b1 m.pods.length d1, .slice b2 m.peers.length d2, .bool m.yes] 26)) := below_alloc' (Below.refl _ _) _
    exact ⟨rfl, HBAG.out.below hb, hb.mono hB, Still.of_below hb⟩
  · have hfi : ¬ (200 : Int) ≤ ms.length := by omega
    have hlt : ms.length < 200 := by omega
    rw [if_pos hlt, show decide (ms.length < 200) = true from decide_eq_true hlt]
    go_enter Tryd.func86, Tryd.ntmps86
    go_wp2
    generalize hw2 : World.alloc w _ = w2
    have hb2 : Below w.heap.size w w2 := by rw [← hw2]; exact below_alloc' (Below.refl _ _) _
    have z0 : w2.heap[w.heap.size]? = some (.cells #[.int .i64 m.kind, .int .i64 m.src, .int .i64 m.dst, .int .i64 m.gang, .slice b1 m.pods.length d1, .slice b2 m.peers.length d2, .bool m.yes] 26 (0, 0)) := by rw [← hw2]; exact alloc_at _ _
    clear hw2 c0
    have hrow2 : w2.ownsRow B 20 1 (.slice a ms.length c) ms.length (ifs vs ms.length) := own_below H2.out hb2
    have hr2 := block_below H1.out hb2
    have hm2 := HM.out.still (Still.of_below hb2)
    have HB2 := Lib.hid hb2
    have hfacts : ∀ w6, Grew (Value.ownBlock (.slice a ms.length c)) w2.drew w6 → w6.cell? ⟨r, 0, none⟩ = some (.slice a ms.length c) ∧ w6.cell? ⟨w.heap.size, 0, none⟩ = some (.int .i64 m.kind) ∧ w6.cell? ⟨w.heap.size, 1, none⟩ = some (.int .i64 m.src) ∧ w6.cell? ⟨w.heap.size, 2, none⟩ = some (.int .i64 m.dst) ∧ w6.cell? ⟨w.heap.size, 3, none⟩ = some (.int .i64 m.gang) ∧ w6.cell? ⟨w.heap.size, 4, none⟩ = some (.slice b1 m.pods.length d1) ∧ w6.cell? ⟨w.heap.size, 5, none⟩ = some (.slice b2 m.peers.length d2) ∧ w6.cell? ⟨w.heap.size, 6, none⟩ = some (.bool m.yes) ∧ MsgAt 0 w6 (.agg #[.int .i64 m.kind, .int .i64 m.src, .int .i64 m.dst, .int .i64 m.gang, .slice b1 m.pods.length d1, .slice b2 m.peers.length d2, .bool m.yes]) m := fun w6 h => by
      have k0 := h.2 _ _ _ (by decide) hr2
      have k1 := h.2 _ _ _ (by decide) z0
      exact ⟨cell_of_block k0 0 _ rfl, cell_of_block k1 0 _ rfl, cell_of_block k1 1 _ rfl, cell_of_block k1 2 _ rfl, cell_of_block k1 3 _ rfl, cell_of_block k1 4 _ rfl, cell_of_block k1 5 _ rfl, cell_of_block k1 6 _ rfl, hm2.still (fun g cs e he hg => h.2 g cs e (by rcases he with rfl | rfl | rfl <;> decide) hg)⟩
    have HFA := Lib.hid hfacts
    have HR2 := Lib.hid hrow2
    have HK2 := Lib.hid hr2
    clear hfacts hm2 z0
    refine' Pas.wp_region_pass (fun w w' => Below w.heap.size w w') (Grew (Value.ownBlock (.slice a ms.length c))) 12 (by kernel_rfl) (by kernel_rfl) (by kernel_rfl) (by kernel_rfl) (by kernel_rfl) (by kernel_rfl)
      (fun w => Grew.refl _ _) (fun h k => Grew.trans h k) [(fun w3 => w3.ownsRow B 20 1 (.slice a ms.length c) ms.length (ifs vs ms.length), 9)] ?_ ?_ (fun vals => ?_)
    case refine'_2 =>
      simp only [List.forall_mem_cons]
      exact ⟨own_drew HR2.out, by simp⟩
    case refine'_3 =>
      simp only [List.forall_mem_cons]
      exact ⟨fun w1 w2 k h => own_below h k, by simp⟩
    rotate_left
    simp only [List.take_succ_cons, List.take_zero, List.drop_succ_cons, List.drop_zero]
    (apply Pas.pas_x (fun _ _ h => Grew.of_below h) rfl; (focus (intro w6 hR hD hP K hK; replace hK := Lib.hid hK; skip; clear hR hD hP; go_simp; exact hK.out _ (Below.refl _ _))); simp only [Act.put, List.setIfInBounds_toArray, List.set_cons_zero, List.set_cons_succ, Nat.reduceAdd, List.cons_append, List.nil_append])
    (apply Pas.pas_x (fun _ _ h => Grew.of_below h) rfl; (focus (intro w6 hR hD hP K hK; replace hK := Lib.hid hK; skip; clear hR hD hP; go_simp; exact hK.out _ (Below.refl _ _))); simp only [Act.put, List.setIfInBounds_toArray, List.set_cons_zero, List.set_cons_succ, Nat.reduceAdd, List.cons_append, List.nil_append])
    (apply Pas.pas_x (fun _ _ h => Grew.of_below h) rfl; (focus (intro w6 hR hD hP K hK; replace hK := Lib.hid hK; skip; clear hR hD hP; go_simp; exact hK.out _ (Below.refl _ _))); simp only [Act.put, List.setIfInBounds_toArray, List.set_cons_zero, List.set_cons_succ, Nat.reduceAdd, List.cons_append, List.nil_append])
    (apply Pas.pas_x (fun _ _ h => Grew.of_below h) rfl; (focus (intro w6 hR hD hP K hK; replace hK := Lib.hid hK; skip; clear hR hD hP; go_simp; exact hK.out _ (Below.refl _ _))); simp only [Act.put, List.setIfInBounds_toArray, List.set_cons_zero, List.set_cons_succ, Nat.reduceAdd, List.cons_append, List.nil_append])
    (apply Pas.pas_x (fun _ _ h => Grew.of_below h) rfl; (focus (intro w6 hR hD hP K hK; replace hK := Lib.hid hK; obtain ⟨e0, e1, e2, e3, e4, e5, e6, e7, _⟩ := HFA.out w6 hR; clear hR hD hP; go_simp; exact hK.out _ (Below.refl _ _))); simp only [Act.put, List.setIfInBounds_toArray, List.set_cons_zero, List.set_cons_succ, Nat.reduceAdd, List.cons_append, List.nil_append])
    (apply Pas.pas_x (fun _ _ h => Grew.of_below h) rfl; (focus (intro w6 hR hD hP K hK; replace hK := Lib.hid hK; obtain ⟨e0, e1, e2, e3, e4, e5, e6, e7, _⟩ := HFA.out w6 hR; clear hR hD hP; go_simp; exact hK.out _ (Below.refl _ _))); simp only [Act.put, List.setIfInBounds_toArray, List.set_cons_zero, List.set_cons_succ, Nat.reduceAdd, List.cons_append, List.nil_append])
    (apply Pas.pas_r (fun v w' => MsgAt 0 w' v m) (fun _ _ h => Grew.of_below h) rfl (fun v w1 w2 h k => h.still (Still.of_below k)); (focus (intro w6 hR hD hP K hK; replace hK := Lib.hid hK; have hmm := (HFA.out w6 hR).2.2.2.2.2.2.2.2; clear hR hD hP; go_simp; refine (own_any 0 w6 _ m hmm HF.out).mono ?_; rintro r w7 ⟨v', rfl, hv, hb⟩; exact hK.out _ _ hb (hv.base (Nat.zero_le _)))); simp only [Act.put, List.setIfInBounds_toArray, List.set_cons_zero, List.set_cons_succ, Nat.reduceAdd, List.cons_append, List.nil_append])
    (apply Pas.pas_r (fun v w' => ∃ u, v = .iface 26 u ∧ MsgAt 0 w' u m) (fun _ _ h => Grew.of_below h) rfl (fun v w1 w2 h k => by obtain ⟨u, h1, h2⟩ := h; exact ⟨u, h1, h2.still (Still.of_below k)⟩); (focus (intro w6 hR hD hP K hK; replace hK := Lib.hid hK; have hmm : MsgAt 0 w6 (vals 6) m := hD 6 (by kernel_rfl); have HMM := Lib.hid hmm; clear hR hD hP hmm; go_simp; exact hK.out _ _ (Below.refl _ _) ⟨_, rfl, HMM.out⟩)); simp only [Act.put, List.setIfInBounds_toArray, List.set_cons_zero, List.set_cons_succ, Nat.reduceAdd, List.cons_append, List.nil_append])
    (apply Pas.pas_r (fun v w' => ∃ g u, v = .slice (some ⟨g, 0, none⟩) 1 1 ∧ Value.ownBlock (.slice a ms.length c) ≠ some g ∧ w'.heap[g]? = some (.cells #[.iface 26 u] 20 (0, 0)) ∧ MsgAt 0 w' u m) (fun _ _ h => Grew.of_below h) rfl (fun v w1 w2 h k => by obtain ⟨g, u, h1, h2, h3, h4⟩ := h; exact ⟨g, u, h1, h2, block_below h3 k, h4.still (Still.of_below k)⟩); (focus (intro w6 hR hD hP K hK; replace hK := Lib.hid hK; obtain ⟨u, eu, hu⟩ : ∃ u, vals 7 = .iface 26 u ∧ MsgAt 0 w6 u m := hD 7 (by kernel_rfl); simp only [eu] at hK ⊢; have hown := hP _ (List.mem_cons_self ..) (.inr (by kernel_rfl)); have HU := Lib.hid hu; have HO := Lib.hid (fun e => Nat.lt_irrefl _ (hown.lt _ e).2 : Value.ownBlock (.slice a ms.length c) ≠ some w6.heap.size); clear hR hD hP eu hu hown; go_simp; exact hK.out _ _ (below_alloc' (Below.refl _ _) _) ⟨_, _, rfl, HO.out, alloc_at _ _, HU.out.still (Still.of_below (below_alloc' (Below.refl _ _) _))⟩)); simp only [Act.put, List.setIfInBounds_toArray, List.set_cons_zero, List.set_cons_succ, Nat.reduceAdd, List.cons_append, List.nil_append])
    (apply Pas.pas_s (Grew (Value.ownBlock (.slice a ms.length c))) (fun v w' => ∃ u, MsgAt 0 w' u m ∧ w'.ownsRow B 20 1 v (ms.length + 1) (ifs vs ms.length ++ [Value.iface 26 u])) (fun _ _ h => h) rfl (fun _ w1 w2 h k => by obtain ⟨u, h1, h2⟩ := h; exact ⟨u, h1.still (Still.of_below k), own_below h2 k⟩); (focus (intro w6 hR hD hP K hK; replace hK := Lib.hid hK; obtain ⟨g, u, eg, _, hg, hu⟩ : ∃ g u, vals 8 = .slice (some ⟨g, 0, none⟩) 1 1 ∧ Value.ownBlock (.slice a ms.length c) ≠ some g ∧ w6.heap[g]? = some (.cells #[.iface 26 u] 20 (0, 0)) ∧ MsgAt 0 w6 u m := hD 8 (by kernel_rfl); simp only [eg] at hK ⊢; have hown := hP _ (List.mem_cons_self ..) (.inl rfl); have hBs : B ≤ w6.heap.size := Nat.le_trans (Nat.le_trans hB HB2.out.size) hR.1.size; clear hD hP eg; refine step_appends elt_any _ _ rfl rfl rfl hown (show [Value.iface 26 u].length = 1 * 1 from rfl) (news_of hg) (by simp [Value.oneCell']) (by omega) hBs ?_; intro v' w7 ho7 hg7; have hgr := Grew.of_grown hown hg7; exact hK.out _ _ hgr ⟨u, hu.still (fun g cs e he hg => hgr.2 g cs e (by rcases he with rfl | rfl | rfl <;> decide) hg), ho7⟩)); simp only [Act.put, List.setIfInBounds_toArray, List.set_cons_zero, List.set_cons_succ, Nat.reduceAdd, List.cons_append, List.nil_append])
    (apply Pas.pas_x (fun _ _ h => Grew.of_below h) rfl; (focus (intro w6 hR hD hP K hK; replace hK := Lib.hid hK; skip; clear hR hD hP; go_simp; exact hK.out _ (Below.refl _ _))); simp only [Act.put, List.setIfInBounds_toArray, List.set_cons_zero, List.set_cons_succ, Nat.reduceAdd, List.cons_append, List.nil_append])
    (apply Pas.pas_x (fun _ _ h => Grew.of_below h) rfl; (focus (intro w6 hR hD hP K hK; replace hK := Lib.hid hK; skip; clear hR hD hP; go_simp; exact hK.out _ (Below.refl _ _))); simp only [Act.put, List.setIfInBounds_toArray, List.set_cons_zero, List.set_cons_succ, Nat.reduceAdd, List.cons_append, List.nil_append])
    refine Pas.pas_ends ?_ ?_ fun w6 hR hp => ?_
    · simp only [Pas.AllK, true_and, and_true, true_or, or_true, Nat.reduceAdd]
      refine ⟨.inr fun v w1 w2 h k q => q.still (parts_any k.2), .inr fun v w1 w2 h k q => ?_, .inr fun v w1 w2 h k q => ?_⟩
      · obtain ⟨u, q1, q2⟩ := q
        exact ⟨u, q1, q2.still (parts_any k.2)⟩
      · obtain ⟨g, u, q1, q2, q3, q4⟩ := q
        exact ⟨g, u, q1, q2, (k.1.block g (Array.getElem?_eq_some_iff.1 q3).1 (fun e => q2 e.symm)).trans q3, q4.still (parts_any k.2)⟩
    · simp [Pas.AllK]
    obtain ⟨u, hu, ho⟩ : ∃ u, MsgAt 0 w6 u m ∧ w6.ownsRow B 20 1 (vals 9) (ms.length + 1) (ifs vs ms.length ++ [Value.iface 26 u]) := hp 9 (by simp)
    obtain ⟨a', c', ev⟩ := own_slicen ho
    rw [ev] at ho
    simp only [ev]
    have hr6 := hR.2 _ _ _ (by decide) HK2.out
    have e0 := cell_of_block hr6 0 _ rfl
    have fr := free_of_block hr6 0
    have HO := Lib.hid ho
    have HU := Lib.hid hu
    have HR6 := Lib.hid hr6
    have HG := Lib.hid hR
    clear hp ev ho hu hr6 hR
    go_wp2
    go_ret
    have hbut := But.set w6 r 0 (.slice a' (ms.length + 1) c')
    have hpar := hbut.still (T := Parts) HR6.out (by unfold Parts; decide)
    have hany := hbut.still (T := fun e => e = 20) HR6.out (by decide)
    have hrest := hbut.still (T := Rest) HR6.out (fun h => h.2 rfl)
    refine ⟨rfl, ⟨h0, _, fun i => if i = ms.length then u else vs i, heap_setCell_same _ _ _ _ _ _ HR6.out, ?_, fun i hi => ?_⟩, ?_, ?_⟩
    · have := own_still HO.out hany rfl
      rw [List.length_append, List.length_singleton, ifs_succ, if_pos rfl, ifs_ext (ws := vs) (fun i hi => if_neg (by omega))]
      exact this
    · rw [List.length_append, List.length_singleton] at hi
      by_cases e : i = ms.length
      · subst e
        show MsgAt _ _ (if _ then u else vs _) _ ∧ _
        rw [if_pos rfl, show (ms ++ [m]).getD ms.length noMsg = m by simp]
        exact ⟨HU.out.still hpar, HF.out⟩
      · have hi' : i < ms.length := by omega
        show MsgAt _ _ (if _ then u else vs _) _ ∧ _
        rw [if_neg e, show (ms ++ [m]).getD i noMsg = ms.getD i noMsg by simp [List.getD_eq_getElem?_getD, List.getElem?_append_left hi']]
        exact ⟨(((H3.out i hi').1.still (Still.of_below HB2.out)).still (parts_any HG.out.2)).still hpar, (H3.out i hi').2⟩
    · exact ((HB2.out.mono hB).drew.grown HG.out.1 (Nat.le_trans hB HB2.out.size) (fun k hk => (HR2.out.lt k hk).1)).setCell h0 _
    · exact ((Still.of_below HB2.out).trans (fun g cs e he hg => HG.out.2 g cs e he.1 hg)).trans hrest
end Go.Proofs.YtpkkjonajimefaaDoor
