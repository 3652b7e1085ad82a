/- A message sent: the post's own copies lie in new blocks. -/
import Derived.Test.YtpkkjonajimefaaDoorLs
set_option linter.unusedVariables false
set_option linter.unusedSimpArgs false
namespace Go.Proofs.YtpkkjonajimefaaDoor
open Go.RowKit

/-- A bag whose messages lie in blocks from C on. -/
def BagC (B C : Nat) (w : World) (r : Nat) (ms : List MsgM) : Prop :=
  B ≤ r ∧ ∃ sl vs, w.heap[r]? = some (.cells #[sl] 62 (0, 0)) ∧ w.ownsRow B 20 1 sl ms.length (ifs vs ms.length) ∧ ∀ i, i < ms.length → MsgAt C w (vs i) (ms.getD i noMsg) ∧ (ms.getD i noMsg).few
theorem BagC.below {B C : Nat} {w w' : World} {r : Nat} {ms : List MsgM} (h : BagC B C w r ms) (hb : Below w.heap.size w w') : BagC B C w' r ms := by
  obtain ⟨h0, sl, vs, h1, h2, h3⟩ := h
  exact ⟨h0, sl, vs, block_below h1 hb, own_below h2 hb, fun i hi => ⟨(h3 i hi).1.still (Still.of_below hb), (h3 i hi).2⟩⟩
def PostC (B C : Nat) (w : World) (p : Value) (ms : List MsgM) : Prop :=
  ∃ b r, p = .pointer (some ⟨b, 0, none⟩) ∧ B ≤ b ∧ w.heap[b]? = some (.cells #[.iface 59 (.pointer (some ⟨r, 0, none⟩))] 66 (0, 0)) ∧ BagC B C w r ms
/-- All stands but row blocks of interfaces and one bag's own block. -/
def StillR (r : Nat) (w w' : World) : Prop := ∀ (g : Nat) (cs : Array Value) (e : TypeId), g ≠ r → e ≠ 20 → w.heap[g]? = some (.cells cs e (0, 0)) → w'.heap[g]? = some (.cells cs e (0, 0))
theorem StillR.of_below {r : Nat} {w w' : World} (h : Below w.heap.size w w') : StillR r w w' := fun g cs e _ _ hg => block_below hg h
theorem StillR.trans {r : Nat} {a b c : World} (h : StillR r a b) (k : StillR r b c) : StillR r a c := fun g cs e h1 h2 hg => k g cs e h1 h2 (h g cs e h1 h2 hg)
theorem PostAt.nilC {B C : Nat} {w : World} {p : Value} (h : PostAt B w p []) : PostC B C w p [] := by
  obtain ⟨b, r, e, h0, h1, h2, sl, vs, h3, h4, _⟩ := h
  exact ⟨b, r, e, h0, h1, h2, sl, vs, h3, h4, fun i hi => absurd hi (Nat.not_lt_zero _)⟩
theorem PostC.at_ {B C : Nat} {w : World} {p : Value} {ms : List MsgM} (h : PostC B C w p ms) : PostAt B w p ms := by
  obtain ⟨b, r, e, h0, h1, h2, sl, vs, h3, h4, h5⟩ := h
  exact ⟨b, r, e, h0, h1, h2, sl, vs, h3, h4, fun i hi => ⟨(h5 i hi).1.base (Nat.zero_le _), (h5 i hi).2⟩⟩

set_option maxHeartbeats 4000000 in
set_option maxRecDepth 100000 in
theorem rputC_any (B C : Nat) (w : World) (hC : C ≤ w.heap.size) (r : Nat) (ms : List MsgM) (h : BagC B C w r ms) (hB : B ≤ w.heap.size) (v : Value) (m : MsgM) (hm : MsgAt 0 w v m) (hf : m.few) : Calls Tryd.prog 86 #[.pointer (some ⟨r, 0, none⟩), v] w fun e w' =>
    e = .returned (.bool (decide (ms.length < 200))) ∧ BagC B C w' r (if ms.length < 200 then ms ++ [m] else ms) ∧ Below B w w' ∧ Still Rest w w' ∧ StillR r w w' := by
  have HBAG := Lib.hid h
  have HCC := Lib.hid hC
  obtain ⟨h0, sl, vs, h1, h2, h3⟩ := h
  obtain ⟨a, c, rfl⟩ := own_slicen h2
  have c0 : ∀ o, (w.alloc o).cell? ⟨r, 0, none⟩ = some (.slice a ms.length c) := fun o => cell_of_block (block_below h1 (below_alloc' (Below.refl _ _) _)) 0 _ rfl
  have HM := Lib.hid hm
  obtain ⟨u, x, ev, ⟨_, hq1, _⟩, hq2⟩ := hm
  obtain ⟨b1, d1, rfl⟩ := own_slicen hq1
  obtain ⟨b2, d2, rfl⟩ := own_slicen hq2
  subst ev
  have H1 := Lib.hid h1
  have H2 := Lib.hid h2
  have H3 := Lib.hid h3
  have HF := Lib.hid hf
  clear h1 h2 h3 hq1 hq2 hf
  by_cases hfull : 200 ≤ ms.length
  · have hfi : (200 : Int) ≤ ms.length := by omega
    rw [if_neg (by omega), show decide (ms.length < 200) = false from decide_eq_false (by omega)]
    go_enter Tryd.func86, Tryd.ntmps86
    go_wp2
    go_ret
    have hb : Below w.heap.size w (w.alloc (.cells #[.int .i64 m.kind, .int .i64 m.src, .int .i64 m.dst, .int .i64 m.gang, .slice b1 m.pods.length d1, .slice b2 m.peers.length d2, .bool m.yes] 26)) := below_alloc' (Below.refl _ _) _
    exact ⟨rfl, HBAG.out.below hb, hb.mono hB, Still.of_below hb, StillR.of_below hb⟩
  · have hfi : ¬ (200 : Int) ≤ ms.length := by omega
    have hlt : ms.length < 200 := by omega
    rw [if_pos hlt, show decide (ms.length < 200) = true from decide_eq_true hlt]
    go_enter Tryd.func86, Tryd.ntmps86
    go_wp2
    generalize hw2 : World.alloc w _ = w2
    have hb2 : Below w.heap.size w w2 := by rw [← hw2]; exact below_alloc' (Below.refl _ _) _
    have z0 : w2.heap[w.heap.size]? = some (.cells #[.int .i64 m.kind, .int .i64 m.src, .int .i64 m.dst, .int .i64 m.gang, .slice b1 m.pods.length d1, .slice b2 m.peers.length d2, .bool m.yes] 26 (0, 0)) := by rw [← hw2]; exact alloc_at _ _
    clear hw2 c0
    have hrow2 : w2.ownsRow B 20 1 (.slice a ms.length c) ms.length (ifs vs ms.length) := own_below H2.out hb2
    have hr2 := block_below H1.out hb2
    have hm2 := HM.out.still (Still.of_below hb2)
    have HB2 := Lib.hid hb2
    have hfacts : ∀ w6, Grew (Value.ownBlock (.slice a ms.length c)) w2.drew w6 → w6.cell? ⟨r, 0, none⟩ = some (.slice a ms.length c) ∧ w6.cell? ⟨w.heap.size, 0, none⟩ = some (.int .i64 m.kind) ∧ w6.cell? ⟨w.heap.size, 1, none⟩ = some (.int .i64 m.src) ∧ w6.cell? ⟨w.heap.size, 2, none⟩ = some (.int .i64 m.dst) ∧ w6.cell? ⟨w.heap.size, 3, none⟩ = some (.int .i64 m.gang) ∧ w6.cell? ⟨w.heap.size, 4, none⟩ = some (.slice b1 m.pods.length d1) ∧ w6.cell? ⟨w.heap.size, 5, none⟩ = some (.slice b2 m.peers.length d2) ∧ w6.cell? ⟨w.heap.size, 6, none⟩ = some (.bool m.yes) ∧ MsgAt 0 w6 (.agg #[.int .i64 m.kind, .int .i64 m.src, .int .i64 m.dst, .int .i64 m.gang, .slice b1 m.pods.length d1, .slice b2 m.peers.length d2, .bool m.yes]) m := fun w6 h => by
      have k0 := h.2 _ _ _ (by decide) hr2
      have k1 := h.2 _ _ _ (by decide) z0
      exact ⟨cell_of_block k0 0 _ rfl, cell_of_block k1 0 _ rfl, cell_of_block k1 1 _ rfl, cell_of_block k1 2 _ rfl, cell_of_block k1 3 _ rfl, cell_of_block k1 4 _ rfl, cell_of_block k1 5 _ rfl, cell_of_block k1 6 _ rfl, hm2.still (fun g cs e he hg => h.2 g cs e (by rcases he with rfl | rfl | rfl <;> decide) hg)⟩
    have HFA := Lib.hid hfacts
    have HR2 := Lib.hid hrow2
    have HK2 := Lib.hid hr2
    clear hfacts hm2 z0
    refine' Pas.wp_region_pass (fun w w' => Below w.heap.size w w') (Grew (Value.ownBlock (.slice a ms.length c))) 12 (by kernel_rfl) (by kernel_rfl) (by kernel_rfl) (by kernel_rfl) (by kernel_rfl) (by kernel_rfl)
      (fun w => Grew.refl _ _) (fun h k => Grew.trans h k) [(fun w3 => w3.ownsRow B 20 1 (.slice a ms.length c) ms.length (ifs vs ms.length), 9)] ?_ ?_ (fun vals => ?_)
    case refine'_2 =>
      simp only [List.forall_mem_cons]
      exact ⟨own_drew HR2.out, by simp⟩
    case refine'_3 =>
      simp only [List.forall_mem_cons]
      exact ⟨fun w1 w2 k h => own_below h k, by simp⟩
    rotate_left
    simp only [List.take_succ_cons, List.take_zero, List.drop_succ_cons, List.drop_zero]
    (apply Pas.pas_x (fun _ _ h => Grew.of_below h) rfl; (focus (intro w6 hR hD hP K hK; replace hK := Lib.hid hK; skip; clear hR hD hP; go_simp; exact hK.out _ (Below.refl _ _))); simp only [Act.put, List.setIfInBounds_toArray, List.set_cons_zero, List.set_cons_succ, Nat.reduceAdd, List.cons_append, List.nil_append])
    (apply Pas.pas_x (fun _ _ h => Grew.of_below h) rfl; (focus (intro w6 hR hD hP K hK; replace hK := Lib.hid hK; skip; clear hR hD hP; go_simp; exact hK.out _ (Below.refl _ _))); simp only [Act.put, List.setIfInBounds_toArray, List.set_cons_zero, List.set_cons_succ, Nat.reduceAdd, List.cons_append, List.nil_append])
    (apply Pas.pas_x (fun _ _ h => Grew.of_below h) rfl; (focus (intro w6 hR hD hP K hK; replace hK := Lib.hid hK; skip; clear hR hD hP; go_simp; exact hK.out _ (Below.refl _ _))); simp only [Act.put, List.setIfInBounds_toArray, List.set_cons_zero, List.set_cons_succ, Nat.reduceAdd, List.cons_append, List.nil_append])
    (apply Pas.pas_x (fun _ _ h => Grew.of_below h) rfl; (focus (intro w6 hR hD hP K hK; replace hK := Lib.hid hK; skip; clear hR hD hP; go_simp; exact hK.out _ (Below.refl _ _))); simp only [Act.put, List.setIfInBounds_toArray, List.set_cons_zero, List.set_cons_succ, Nat.reduceAdd, List.cons_append, List.nil_append])
    (apply Pas.pas_x (fun _ _ h => Grew.of_below h) rfl; (focus (intro w6 hR hD hP K hK; replace hK := Lib.hid hK; obtain ⟨e0, e1, e2, e3, e4, e5, e6, e7, _⟩ := HFA.out w6 hR; clear hR hD hP; go_simp; exact hK.out _ (Below.refl _ _))); simp only [Act.put, List.setIfInBounds_toArray, List.set_cons_zero, List.set_cons_succ, Nat.reduceAdd, List.cons_append, List.nil_append])
    (apply Pas.pas_x (fun _ _ h => Grew.of_below h) rfl; (focus (intro w6 hR hD hP K hK; replace hK := Lib.hid hK; obtain ⟨e0, e1, e2, e3, e4, e5, e6, e7, _⟩ := HFA.out w6 hR; clear hR hD hP; go_simp; exact hK.out _ (Below.refl _ _))); simp only [Act.put, List.setIfInBounds_toArray, List.set_cons_zero, List.set_cons_succ, Nat.reduceAdd, List.cons_append, List.nil_append])
    (apply Pas.pas_r (fun v w' => MsgAt C w' v m) (fun _ _ h => Grew.of_below h) rfl (fun v w1 w2 h k => h.still (Still.of_below k)); (focus (intro w6 hR hD hP K hK; replace hK := Lib.hid hK; have hmm := (HFA.out w6 hR).2.2.2.2.2.2.2.2; have hz6 := Lib.hid (Nat.le_trans HCC.out (Nat.le_trans HB2.out.size hR.1.size)); clear hR hD hP; go_simp; refine (own_any 0 w6 _ m hmm HF.out).mono ?_; rintro r w7 ⟨v', rfl, hv, hb⟩; exact hK.out _ _ hb (hv.base hz6.out))); simp only [Act.put, List.setIfInBounds_toArray, List.set_cons_zero, List.set_cons_succ, Nat.reduceAdd, List.cons_append, List.nil_append])
    (apply Pas.pas_r (fun v w' => ∃ u, v = .iface 26 u ∧ MsgAt C w' u m) (fun _ _ h => Grew.of_below h) rfl (fun v w1 w2 h k => by obtain ⟨u, h1, h2⟩ := h; exact ⟨u, h1, h2.still (Still.of_below k)⟩); (focus (intro w6 hR hD hP K hK; replace hK := Lib.hid hK; have hmm : MsgAt C w6 (vals 6) m := hD 6 (by kernel_rfl); have HMM := Lib.hid hmm; clear hR hD hP hmm; go_simp; exact hK.out _ _ (Below.refl _ _) ⟨_, rfl, HMM.out⟩)); simp only [Act.put, List.setIfInBounds_toArray, List.set_cons_zero, List.set_cons_succ, Nat.reduceAdd, List.cons_append, List.nil_append])
    (apply Pas.pas_r (fun v w' => ∃ g u, v = .slice (some ⟨g, 0, none⟩) 1 1 ∧ Value.ownBlock (.slice a ms.length c) ≠ some g ∧ w'.heap[g]? = some (.cells #[.iface 26 u] 20 (0, 0)) ∧ MsgAt C w' u m) (fun _ _ h => Grew.of_below h) rfl (fun v w1 w2 h k => by obtain ⟨g, u, h1, h2, h3, h4⟩ := h; exact ⟨g, u, h1, h2, block_below h3 k, h4.still (Still.of_below k)⟩); (focus (intro w6 hR hD hP K hK; replace hK := Lib.hid hK; obtain ⟨u, eu, hu⟩ : ∃ u, vals 7 = .iface 26 u ∧ MsgAt C w6 u m := hD 7 (by kernel_rfl); simp only [eu] at hK ⊢; have hown := hP _ (List.mem_cons_self ..) (.inr (by kernel_rfl)); have HU := Lib.hid hu; have HO := Lib.hid (fun e => Nat.lt_irrefl _ (hown.lt _ e).2 : Value.ownBlock (.slice a ms.length c) ≠ some w6.heap.size); clear hR hD hP eu hu hown; go_simp; exact hK.out _ _ (below_alloc' (Below.refl _ _) _) ⟨_, _, rfl, HO.out, alloc_at _ _, HU.out.still (Still.of_below (below_alloc' (Below.refl _ _) _))⟩)); simp only [Act.put, List.setIfInBounds_toArray, List.set_cons_zero, List.set_cons_succ, Nat.reduceAdd, List.cons_append, List.nil_append])
    (apply Pas.pas_s (Grew (Value.ownBlock (.slice a ms.length c))) (fun v w' => ∃ u, MsgAt C w' u m ∧ w'.ownsRow B 20 1 v (ms.length + 1) (ifs vs ms.length ++ [Value.iface 26 u])) (fun _ _ h => h) rfl (fun _ w1 w2 h k => by obtain ⟨u, h1, h2⟩ := h; exact ⟨u, h1.still (Still.of_below k), own_below h2 k⟩); (focus (intro w6 hR hD hP K hK; replace hK := Lib.hid hK; obtain ⟨g, u, eg, _, hg, hu⟩ : ∃ g u, vals 8 = .slice (some ⟨g, 0, none⟩) 1 1 ∧ Value.ownBlock (.slice a ms.length c) ≠ some g ∧ w6.heap[g]? = some (.cells #[.iface 26 u] 20 (0, 0)) ∧ MsgAt C w6 u m := hD 8 (by kernel_rfl); simp only [eg] at hK ⊢; have hown := hP _ (List.mem_cons_self ..) (.inl rfl); have hBs : B ≤ w6.heap.size := Nat.le_trans (Nat.le_trans hB HB2.out.size) hR.1.size; clear hD hP eg; refine step_appends elt_any _ _ rfl rfl rfl hown (show [Value.iface 26 u].length = 1 * 1 from rfl) (news_of hg) (by simp [Value.oneCell']) (by omega) hBs ?_; intro v' w7 ho7 hg7; have hgr := Grew.of_grown hown hg7; exact hK.out _ _ hgr ⟨u, hu.still (fun g cs e he hg => hgr.2 g cs e (by rcases he with rfl | rfl | rfl <;> decide) hg), ho7⟩)); simp only [Act.put, List.setIfInBounds_toArray, List.set_cons_zero, List.set_cons_succ, Nat.reduceAdd, List.cons_append, List.nil_append])
    (apply Pas.pas_x (fun _ _ h => Grew.of_below h) rfl; (focus (intro w6 hR hD hP K hK; replace hK := Lib.hid hK; skip; clear hR hD hP; go_simp; exact hK.out _ (Below.refl _ _))); simp only [Act.put, List.setIfInBounds_toArray, List.set_cons_zero, List.set_cons_succ, Nat.reduceAdd, List.cons_append, List.nil_append])
    (apply Pas.pas_x (fun _ _ h => Grew.of_below h) rfl; (focus (intro w6 hR hD hP K hK; replace hK := Lib.hid hK; skip; clear hR hD hP; go_simp; exact hK.out _ (Below.refl _ _))); simp only [Act.put, List.setIfInBounds_toArray, List.set_cons_zero, List.set_cons_succ, Nat.reduceAdd, List.cons_append, List.nil_append])
    refine Pas.pas_ends ?_ ?_ fun w6 hR hp => ?_
    · simp only [Pas.AllK, true_and, and_true, true_or, or_true, Nat.reduceAdd]
      refine ⟨.inr fun v w1 w2 h k q => q.still (parts_any k.2), .inr fun v w1 w2 h k q => ?_, .inr fun v w1 w2 h k q => ?_⟩
      · obtain ⟨u, q1, q2⟩ := q
        exact ⟨u, q1, q2.still (parts_any k.2)⟩
      · obtain ⟨g, u, q1, q2, q3, q4⟩ := q
        exact ⟨g, u, q1, q2, (k.1.block g (Array.getElem?_eq_some_iff.1 q3).1 (fun e => q2 e.symm)).trans q3, q4.still (parts_any k.2)⟩
    · simp [Pas.AllK]
    obtain ⟨u, hu, ho⟩ : ∃ u, MsgAt C w6 u m ∧ w6.ownsRow B 20 1 (vals 9) (ms.length + 1) (ifs vs ms.length ++ [Value.iface 26 u]) := hp 9 (by simp)
    obtain ⟨a', c', ev⟩ := own_slicen ho
    rw [ev] at ho
    simp only [ev]
    have hr6 := hR.2 _ _ _ (by decide) HK2.out
    have e0 := cell_of_block hr6 0 _ rfl
    have fr := free_of_block hr6 0
    have HO := Lib.hid ho
    have HU := Lib.hid hu
    have HR6 := Lib.hid hr6
    have HG := Lib.hid hR
    clear hp ev ho hu hr6 hR
    go_wp2
    go_ret
    have hbut := But.set w6 r 0 (.slice a' (ms.length + 1) c')
    have hpar := hbut.still (T := Parts) HR6.out (by unfold Parts; decide)
    have hany := hbut.still (T := fun e => e = 20) HR6.out (by decide)
    have hrest := hbut.still (T := Rest) HR6.out (fun h => h.2 rfl)
    refine ⟨rfl, ⟨h0, _, fun i => if i = ms.length then u else vs i, heap_setCell_same _ _ _ _ _ _ HR6.out, ?_, fun i hi => ?_⟩, ?_, ?_, ?_⟩
    · have := own_still HO.out hany rfl
      rw [List.length_append, List.length_singleton, ifs_succ, if_pos rfl, ifs_ext (ws := vs) (fun i hi => if_neg (by omega))]
      exact this
    · rw [List.length_append, List.length_singleton] at hi
      by_cases e : i = ms.length
      · subst e
        show MsgAt _ _ (if _ then u else vs _) _ ∧ _
        rw [if_pos rfl, show (ms ++ [m]).getD ms.length noMsg = m by simp]
        exact ⟨HU.out.still hpar, HF.out⟩
      · have hi' : i < ms.length := by omega
        show MsgAt _ _ (if _ then u else vs _) _ ∧ _
        rw [if_neg e, show (ms ++ [m]).getD i noMsg = ms.getD i noMsg by simp [List.getD_eq_getElem?_getD, List.getElem?_append_left hi']]
        exact ⟨(((H3.out i hi').1.still (Still.of_below HB2.out)).still (parts_any HG.out.2)).still hpar, (H3.out i hi').2⟩
    · exact ((HB2.out.mono hB).drew.grown HG.out.1 (Nat.le_trans hB HB2.out.size) (fun k hk => (HR2.out.lt k hk).1)).setCell h0 _
    · exact ((Still.of_below HB2.out).trans (fun g cs e he hg => HG.out.2 g cs e he.1 hg)).trans hrest
    · exact (StillR.of_below HB2.out).trans fun g cs e hne he hg => (hbut.block g (Nat.lt_of_lt_of_le (Array.getElem?_eq_some_iff.1 hg).1 HG.out.1.size) hne).trans (HG.out.2 g cs e he hg)

set_option maxHeartbeats 2000000 in
set_option maxRecDepth 100000 in
theorem sendC_any (B C : Nat) (w : World) (hC : C ≤ w.heap.size) (b r : Nat) (ms : List MsgM) (h0 : B ≤ b) (h1 : w.heap[b]? = some (.cells #[.iface 59 (.pointer (some ⟨r, 0, none⟩))] 66 (0, 0))) (h2 : BagC B C w r ms) (hB : B ≤ w.heap.size) (v : Value) (l : List MsgM) (hl : MsgsAt w v l) (hn : l.length ≤ 1073741824) : Calls Tryd.prog 22 #[.pointer (some ⟨b, 0, none⟩), v] w fun e w' =>
    e = .returned (.tuple #[]) ∧ w'.heap[b]? = some (.cells #[.iface 59 (.pointer (some ⟨r, 0, none⟩))] 66 (0, 0)) ∧ BagC B C w' r (sent ms l) ∧ Below B w w' ∧ Still Rest w w' ∧ StillR r w w' := by
  obtain ⟨c, hrow, hc⟩ := hl
  obtain ⟨a, cap, rfl⟩ := own_slicen hrow
  have H1 := Lib.hid h1
  have H2 := Lib.hid h2
  have HR := Lib.hid hrow
  have HC := Lib.hid hc
  clear h1 h2 hrow hc
  go_enter Tryd.func22, Tryd.ntmps22
  go_wp2
  go_loopw [8] (fun i wr => ∃ k : Nat, i = .int .i64 k ∧ k ≤ l.length ∧ BagC B C wr r (sent ms (l.take k)) ∧ Below B w wr ∧ Still Rest w wr ∧ StillR r w wr) (fun i _ => l.length - (intOf i).toNat)
  case atStart => exact ⟨0, rfl, Nat.zero_le _, H2.out, Below.refl _ _, fun _ _ _ _ h => h, fun _ _ _ _ _ h => h⟩
  case round =>
    obtain ⟨k, rfl, hk, hbag, hbw, hsw, hrw⟩ := hrel
    have HBAG := Lib.hid hbag
    have HBW := Lib.hid hbw
    have HSW := Lib.hid hsw
    have HRW := Lib.hid hrw
    clear hbag hbw hsw hrw
    by_cases hlt : k < l.length
    · have hlt' : (k : Int) < l.length := by omega
      obtain ⟨g, cap', eu, hg, hgs⟩ := (own_forms HR.out).resolve_left (by rintro ⟨_, h, _⟩; omega)
      injection eu with e1 e2 e3
      subst e1 e3
      obtain ⟨mk, hmk⟩ : ∃ mk, mk = l.getD k noMsg := ⟨_, rfl⟩
      obtain ⟨hc7, hmsg, hfew⟩ := HC.out k hlt
      rw [← hmk] at hmsg hfew
      have hl7 : ∀ i, i < l.length → (c i).length = 7 := fun i hi => (HC.out i hi).1
      have hrwx := own_still HR.out HSW.out ⟨by decide, by decide⟩
      have hm1 := hmsg.still (parts_rest HSW.out)
      obtain ⟨u, x, ev, ⟨_, q1, _⟩, q2⟩ := hmsg
      obtain ⟨b1, d1, rfl⟩ := own_slicen q1
      obtain ⟨b2, d2, rfl⟩ := own_slicen q2
      have ec : c k = [.int .i64 mk.kind, .int .i64 mk.src, .int .i64 mk.dst, .int .i64 mk.gang, .slice b1 mk.pods.length d1, .slice b2 mk.peers.length d2, .bool mk.yes] := by
        have := congrArg (fun v : Value => match v with | .agg cs => cs.toList | _ => []) ev
        simpa using this
      have hcell : ∀ j, j < 7 → ∀ v, (c k)[j]? = some v → wr.cell? ⟨g, k * 7 + j, none⟩ = some v := fun j hj v hv => by
        rw [hrwx.cellAt _ (by have := Nat.mul_le_mul_right 7 (show k + 1 ≤ l.length from hlt); omega), flat_get hl7 hlt hj, hv]
      rw [ec] at hcell
      have e0 : wr.cell? ⟨g, k * 7, none⟩ = _ := hcell 0 (by omega) _ rfl
      have e1 := hcell 1 (by omega) _ rfl
      have e2 := hcell 2 (by omega) _ rfl
      have e3 := hcell 3 (by omega) _ rfl
      have e4 := hcell 4 (by omega) _ rfl
      have e5 := hcell 5 (by omega) _ rfl
      have e6 := hcell 6 (by omega) _ rfl
      rw [ev] at hm1
      have HM1 := Lib.hid hm1
      have HFW := Lib.hid hfew
      have HMK := Lib.hid hmk
      clear hcell hl7 hrwx hm1 ev ec hc7 q1 q2 hfew hmk
      go_wp2
      generalize hw5 : World.alloc wr _ = w5
      have hb5 : Below wr.heap.size wr w5 := by rw [← hw5]; exact below_alloc' (Below.refl _ _) _
      have zp : w5.heap[wr.heap.size]? = some (.cells #[.int .i64 mk.kind, .int .i64 mk.src, .int .i64 mk.dst, .int .i64 mk.gang, .slice b1 mk.pods.length d1, .slice b2 mk.peers.length d2, .bool mk.yes] 26 (0, 0)) := by rw [← hw5]; exact alloc_at _ _
      clear hw5 e0 e1 e2 e3 e4 e5 e6
      have zb := block_below (HSW.out _ _ _ ⟨by decide, by decide⟩ H1.out) hb5
      have hs : ∀ w6, Below w5.drew.heap.size w5.drew w6 → w6.cell? ⟨b, 0, none⟩ = some (.iface 59 (.pointer (some ⟨r, 0, none⟩))) ∧ w6.cell? ⟨wr.heap.size, 0, none⟩ = some (.int .i64 mk.kind) ∧ w6.cell? ⟨wr.heap.size, 1, none⟩ = some (.int .i64 mk.src) ∧ w6.cell? ⟨wr.heap.size, 2, none⟩ = some (.int .i64 mk.dst) ∧ w6.cell? ⟨wr.heap.size, 3, none⟩ = some (.int .i64 mk.gang) ∧ w6.cell? ⟨wr.heap.size, 4, none⟩ = some (.slice b1 mk.pods.length d1) ∧ w6.cell? ⟨wr.heap.size, 5, none⟩ = some (.slice b2 mk.peers.length d2) ∧ w6.cell? ⟨wr.heap.size, 6, none⟩ = some (.bool mk.yes) := fun w6 h => by
        have k0 := block_below (w := w5.drew) zb h
        have k1 := block_below (w := w5.drew) zp h
        exact ⟨cell_of_block k0 0 _ rfl, cell_of_block k1 0 _ rfl, cell_of_block k1 1 _ rfl, cell_of_block k1 2 _ rfl, cell_of_block k1 3 _ rfl, cell_of_block k1 4 _ rfl, cell_of_block k1 5 _ rfl, cell_of_block k1 6 _ rfl⟩
      have HS := Lib.hid hs
      have HB5 := Lib.hid hb5
      clear hs zb zp hb5
      refine' Par.wp_region_pars (fun w w' => Below w.heap.size w w') 5 (by kernel_rfl) (by kernel_rfl) (by kernel_rfl) (by kernel_rfl) (by kernel_rfl) (by kernel_rfl)
        (fun w => Below.refl _ w) (fun h k => below_call h k) (fun vals => ?_)
      rotate_left
      simp only [List.take_succ_cons, List.take_zero, List.drop_succ_cons, List.drop_zero]
      iterate 5 (apply Par.par_x rfl; (focus (intro w6 hR hD K hK; replace hK := Lib.hid hK; obtain ⟨e0, e1, e2, e3, e4, e5, e6, e7⟩ := HS.out w6 hR; clear hR hD; go_simp; exact hK.out _ (Below.refl _ _))); simp only [Act.put, List.setIfInBounds_toArray, List.set_cons_zero, List.set_cons_succ, Nat.reduceAdd, List.cons_append, List.nil_append])
      refine Par.par_end fun w6 hR hp => ?_
      clear hp
      have hb6 := below_call HB5.out.drew hR
      have HB6 := Lib.hid hb6
      clear hR hb6 HS
      go_wp2_with (go_at_call 86; fail)
      refine (rputC_any B C w6 (Nat.le_trans hC (Nat.le_trans HBW.out.size HB6.out.size)) r _ (HBAG.out.below HB6.out) (Nat.le_trans hB (Nat.le_trans HBW.out.size HB6.out.size)) _ mk (HM1.out.still (Still.of_below HB6.out)) HFW.out).mono ?_
      rintro e w7 ⟨rfl, hbag7, hb7, hs7, hr7⟩
      have HBAG7 := Lib.hid hbag7
      have HB7 := Lib.hid hb7
      have HS7 := Lib.hid hs7
      have HR7 := Lib.hid hr7
      clear hbag7 hb7 hs7 hr7
      go_wp2
      go_roundw
      case rel =>
        refine ⟨k + 1, by go_num, by omega, ?_, HBW.out.trans ((HB6.out.mono (Nat.le_trans hB HBW.out.size)).trans HB7.out), HSW.out.trans ((Still.of_below HB6.out).trans HS7.out), HRW.out.trans ((StillR.of_below HB6.out).trans HR7.out)⟩
        have e : l.take (k + 1) = l.take k ++ [mk] := by
          rw [List.take_add_one, HMK.out, List.getD_eq_getElem?_getD, List.getElem?_eq_getElem hlt]; rfl
        rw [e, sent_snoc]
        exact HBAG7.out
      case measure => simp [intOf]; omega
    · obtain rfl : k = l.length := by omega
      go_wp2
      have hbag := HBAG.out
      rw [List.take_length] at hbag
      exact bodyPost_end (v := .tuple #[]) (by simp [results, Tryd.results22, go_sem]) rfl ⟨rfl, HSW.out _ _ _ ⟨by decide, by decide⟩ H1.out, hbag, HBW.out, HSW.out, HRW.out⟩
end Go.Proofs.YtpkkjonajimefaaDoor
