/- What post's function for a message of its own hands back: a message of the same fields, in memory of the call's own. -/
import Derived.Test.YtpkkjonajimefaaDoorV
import Derived.Test.YtpkkjonajimefaaDoorPas
set_option linter.unusedVariables false
set_option linter.unusedSimpArgs false
namespace Go.Proofs.YtpkkjonajimefaaDoor
open Go.RowKit

/-- All stands but the listed places of one block. -/
structure But (g : Nat) (ps : List Nat) (w w' : World) : Prop where
  os : w'.os = w.os
  tape : w'.tape = w.tape
  output : w'.output = w.output
  size : w.heap.size ≤ w'.heap.size
  block : ∀ k, k < w.heap.size → k ≠ g → w'.heap[k]? = w.heap[k]?
  row : ∀ (cs : Array Value) (T : TypeId), w.heap[g]? = some (.cells cs T (0, 0)) → ∃ cs', w'.heap[g]? = some (.cells cs' T (0, 0)) ∧ cs'.size = cs.size ∧ ∀ q, q ∉ ps → cs'[q]? = cs[q]?
theorem But.refl (g : Nat) (ps : List Nat) (w : World) : But g ps w w := ⟨rfl, rfl, rfl, Nat.le_refl _, fun _ _ _ => rfl, fun cs T h => ⟨cs, h, rfl, fun _ _ => rfl⟩⟩
theorem But.trans {g : Nat} {ps : List Nat} {a b c : World} (h : But g ps a b) (k : But g ps b c) : But g ps a c :=
  ⟨k.os.trans h.os, k.tape.trans h.tape, k.output.trans h.output, Nat.le_trans h.size k.size, fun i hi hg => (k.block i (Nat.lt_of_lt_of_le hi h.size) hg).trans (h.block i hi hg), fun cs T hc => by
    obtain ⟨c1, h1, h2, h3⟩ := h.row cs T hc
    obtain ⟨c2, k1, k2, k3⟩ := k.row c1 T h1
    exact ⟨c2, k1, k2.trans h2, fun q hq => (k3 q hq).trans (h3 q hq)⟩⟩
theorem But.of_below {g : Nat} {ps : List Nat} {w w' : World} (h : Below w.heap.size w w') : But g ps w w' :=
  ⟨h.os, h.tape, h.output, h.size, fun k hk _ => h.block k hk, fun cs T hc => ⟨cs, block_below hc h, rfl, fun _ _ => rfl⟩⟩
theorem But.mono {g : Nat} {ps qs : List Nat} {w w' : World} (h : But g ps w w') (hs : ∀ q ∈ ps, q ∈ qs) : But g qs w w' :=
  ⟨h.os, h.tape, h.output, h.size, h.block, fun cs T hc => by
    obtain ⟨c1, h1, h2, h3⟩ := h.row cs T hc
    exact ⟨c1, h1, h2, fun q hq => h3 q fun hp => hq (hs q hp)⟩⟩
theorem But.set (w : World) (g q : Nat) (u : Value) : But g [q] w (w.setCell ⟨g, q, none⟩ u) :=
  ⟨rfl, rfl, rfl, by simp [World.setCell], fun k hk hg => Below.heap_setCell _ _ _ _ hg, fun cs T hc => ⟨cs.setIfInBounds q u, heap_setCell_same _ _ _ _ _ _ hc, by simp, fun p hp => by
    have : q ≠ p := fun e => hp (by simp [e])
    simp [Array.getElem?_setIfInBounds, this]⟩⟩
theorem But.cell {g : Nat} {ps : List Nat} {w w' : World} (h : But g ps w w') {cs : Array Value} {T : TypeId} (hc : w.heap[g]? = some (.cells cs T (0, 0))) {q : Nat} (hq : q ∉ ps) {v : Value} (hv : w.cell? ⟨g, q, none⟩ = some v) : w'.cell? ⟨g, q, none⟩ = some v := by
  obtain ⟨c1, h1, h2, h3⟩ := h.row cs T hc
  have e : cs[q]? = some v := by simpa [World.cell?, hc] using hv
  exact cell_of_block h1 q v ((h3 q hq).trans e)
theorem But.still {g : Nat} {ps : List Nat} {w w' : World} {T : TypeId → Prop} {cs : Array Value} {e : TypeId} (h : But g ps w w') (hc : w.heap[g]? = some (.cells cs e (0, 0))) (hT : ¬ T e) : Still T w w' := by
  intro k ds e' he hk
  have hkl : k < w.heap.size := (Array.getElem?_eq_some_iff.1 hk).1
  have hne : k ≠ g := by
    rintro rfl
    rw [hc] at hk
    injection hk with hk
    injection hk with _ hk
    exact hT (hk ▸ he)
  rw [h.block k hkl hne, hk]
theorem Below.but {B g : Nat} {ps : List Nat} {a w w' : World} (h : Below B a w) (k : But g ps w w') (hg : B ≤ g) (hB : B ≤ w.heap.size) : Below B a w' :=
  h.trans ⟨k.os, k.tape, k.output, k.size, fun i hi => k.block i (by omega) (by omega)⟩
theorem Below.but_size {w a b : World} (h : Below w.heap.size w a) (k : Below a.heap.size a b) : Below w.heap.size w b := below_call h k
theorem Strs.still' {base : Nat} {w w' : World} {v : Value} {l : List ByteArray} (h : Strs base w v l) (k : Still (fun e => e = 9) w w') : Strs base w' v l := own_still h k rfl
theorem PodAt.still' {base : Nat} {w w' : World} {cs : List Value} {p : PodM} (h : PodAt base w cs p) (k : Still (fun e => e = 9) w w') : PodAt base w' cs p := by
  obtain ⟨u, v, e, h1, h2⟩ := h
  exact ⟨u, v, e, h1.still' k, h2.still' k⟩
theorem Ints.still' {base : Nat} {w w' : World} {v : Value} {l : List Int} (h : Ints base w v l) (k : Still (fun e => e = 3) w w') : Ints base w' v l := own_still h k rfl
theorem arr7 {cs : Array Value} {a b c d e f g : Value} (h : cs.size = 7) (h0 : cs[0]? = some a) (h1 : cs[1]? = some b) (h2 : cs[2]? = some c) (h3 : cs[3]? = some d) (h4 : cs[4]? = some e) (h5 : cs[5]? = some f) (h6 : cs[6]? = some g) : cs = #[a, b, c, d, e, f, g] := by
  apply Array.ext_getElem?
  intro i
  match i with
  | 0 => simp [h0] | 1 => simp [h1] | 2 => simp [h2] | 3 => simp [h3] | 4 => simp [h4] | 5 => simp [h5] | 6 => simp [h6]
  | n + 7 => rw [Array.getElem?_eq_none (by omega), Array.getElem?_eq_none (by simp)]
theorem one_pods {b n : Nat} {w : World} {c : Nat → List Value} {l : Nat → PodM} (h : ∀ i, i < n → PodAt b w (c i) (l i)) : ∀ u ∈ flat n c, u.oneCell' = true := by
  intro u hu
  obtain ⟨i, hi, hm⟩ := flat_mem hu
  obtain ⟨x, y, e, h1, h2⟩ := h i hi
  rw [e] at hm
  have own1 : ∀ {v : Value} {l : List ByteArray}, Strs b w v l → v.oneCell' = true := fun h => by
    rcases own_forms h with ⟨rfl, _⟩ | ⟨g, cap, rfl, _⟩ <;> rfl
  simp only [List.mem_cons, List.not_mem_nil, or_false] at hm
  rcases hm with rfl | rfl | rfl | rfl | rfl | rfl | rfl
  · rfl
  · rfl
  · rfl
  · rfl
  · exact own1 h1
  · exact own1 h2
  · rfl
theorem own_slice {w : World} {base n size : Nat} {e : TypeId} {v : Value} {xs : List Value} (h : w.ownsRow base e size v n xs) : ∃ a l c, v = .slice a l c := by
  rcases own_forms h with ⟨rfl, _⟩ | ⟨g, cap, rfl, _⟩ <;> exact ⟨_, _, _, rfl⟩
theorem own_slicen {w : World} {base n size : Nat} {e : TypeId} {v : Value} {xs : List Value} (h : w.ownsRow base e size v n xs) : ∃ a c, v = .slice a n c := by
  rcases own_forms h with ⟨rfl, rfl, _⟩ | ⟨g, cap, rfl, _⟩ <;> exact ⟨_, _, rfl⟩
theorem at_cell {w : World} {g q : Nat} {cs : Array Value} {T : TypeId} {v : Value} (hc : w.heap[g]? = some (.cells cs T (0, 0))) (hv : w.cell? ⟨g, q, none⟩ = some v) : cs[q]? = some v := by
  simpa [World.cell?, hc] using hv

theorem But.row_set {g p q base size n cap : Nat} {e : TypeId} {xs : List Value} {w w' : World} {u v : Value} (h : But g [p, q] w w') (hown : w.ownsRow base e size (.slice (some ⟨g, 0, none⟩) n cap) n xs)
    (hu : w'.cell? ⟨g, p, none⟩ = some u) (hv : w'.cell? ⟨g, q, none⟩ = some v) (hpq : p ≠ q) : w'.ownsRow base e size (.slice (some ⟨g, 0, none⟩) n cap) n ((xs.set p u).set q v) := by
  obtain ⟨h1, h2⟩ := hown
  refine ⟨by simpa using h1, ?_⟩
  rcases h2 with ⟨h2, _⟩ | ⟨g', cap', cur, hvv, hb, hg, h3, h4, h5, h6⟩
  · simp at h2
  · simp only [Value.slice.injEq, Option.some.injEq, Addr.mk.injEq, and_true, true_and] at hvv
    obtain ⟨rfl, rfl⟩ := hvv
    obtain ⟨cs, k1, k2, k3⟩ := h.row _ _ hg
    refine .inr ⟨g, cap, cs, rfl, hb, k1, h3, h4, k2.trans h5, ?_⟩
    have gu := at_cell k1 hu
    have gv := at_cell k1 hv
    apply List.ext_getElem?
    intro i
    rw [List.getElem?_take]
    by_cases hi : i < n * size
    · rw [if_pos hi, Array.getElem?_toList, List.getElem?_set, List.getElem?_set]
      have hl : i < xs.length := by omega
      by_cases h7 : q = i
      · subst h7
        rw [if_pos rfl, if_pos (by simpa using hl), gv]
      · rw [if_neg h7]
        by_cases h8 : p = i
        · subst h8
          rw [if_pos rfl, if_pos hl, gu]
        · rw [if_neg h8, k3 i (by simp; omega), ← h6, List.getElem?_take_of_lt hi, Array.getElem?_toList]
    · rw [if_neg hi, List.getElem?_eq_none]
      simp
      omega
theorem set7 (w : World) (g : Nat) (cs : Array Value) (T : TypeId) (x0 x1 x2 x3 x4 x5 x6 : Value) (h : w.heap[g]? = some (.cells cs T (0, 0))) (hs : cs.size = 7) :
    (((((((w.setCell ⟨g, 0, none⟩ x0).setCell ⟨g, 1, none⟩ x1).setCell ⟨g, 2, none⟩ x2).setCell ⟨g, 3, none⟩ x3).setCell ⟨g, 4, none⟩ x4).setCell ⟨g, 5, none⟩ x5).setCell ⟨g, 6, none⟩ x6).heap[g]? = some (.cells #[x0, x1, x2, x3, x4, x5, x6] T (0, 0)) ∧
    But g [0, 1, 2, 3, 4, 5, 6] w (((((((w.setCell ⟨g, 0, none⟩ x0).setCell ⟨g, 1, none⟩ x1).setCell ⟨g, 2, none⟩ x2).setCell ⟨g, 3, none⟩ x3).setCell ⟨g, 4, none⟩ x4).setCell ⟨g, 5, none⟩ x5).setCell ⟨g, 6, none⟩ x6) := by
  refine ⟨?_, ?_⟩
  · rw [heap_setCell_same _ _ _ _ _ _ (heap_setCell_same _ _ _ _ _ _ (heap_setCell_same _ _ _ _ _ _ (heap_setCell_same _ _ _ _ _ _ (heap_setCell_same _ _ _ _ _ _ (heap_setCell_same _ _ _ _ _ _ (heap_setCell_same _ _ _ _ _ _ h))))))]
    obtain ⟨l⟩ := cs
    match l, hs with
    | [c0, c1, c2, c3, c4, c5, c6], _ => rfl
  · have k : ∀ (j : Nat) (w : World) (v : Value), j < 7 → But g [0, 1, 2, 3, 4, 5, 6] w (w.setCell ⟨g, j, none⟩ v) := fun j w v hj => (But.set w g j v).mono (by simp; omega)
    exact (((((((k 0 _ _ (by omega)).trans (k 1 _ _ (by omega))).trans (k 2 _ _ (by omega))).trans (k 3 _ _ (by omega))).trans (k 4 _ _ (by omega))).trans (k 5 _ _ (by omega))).trans (k 6 _ _ (by omega)))

set_option maxHeartbeats 8000000 in
set_option maxRecDepth 100000 in
theorem own_any (b : Nat) (w : World) (v : Value) (m : MsgM) (h : MsgAt b w v m) (hf : m.few) :
    Calls Tryd.prog 88 #[v] w fun e w' => ∃ v', e = .returned v' ∧ MsgAt w.heap.size w' v' m ∧ Below w.heap.size w w' := by
  obtain ⟨u, x, rfl, ⟨c, hrow, hpods⟩, hints⟩ := h
  have HR := Lib.hid hrow
  have HP := Lib.hid hpods
  have HI := Lib.hid hints
  have HF := Lib.hid hf
  clear hrow hpods hints hf
  go_enter Tryd.func88, Tryd.ntmps88
  go_wp2
  generalize hw2 : World.alloc (World.alloc w _) _ = w2
  have hb2 : Below w.heap.size w w2 := by rw [← hw2]; exact below_alloc' (below_alloc' (Below.refl _ _) _) _
  have z0 : w2.heap[w.heap.size]? = some (.cells #[.int .i64 m.kind, .int .i64 m.src, .int .i64 m.dst, .int .i64 m.gang, u, x, .bool m.yes] 26 (0, 0)) := by rw [← hw2, Below.heap_alloc _ _ _ (by simp)]; exact alloc_at _ _
  have z1 : w2.heap[w.heap.size + 1]? = some (.cells #[.int .i64 0, .int .i64 0, .int .i64 0, .int .i64 0, .slice none 0 0, .slice none 0 0, .bool false] 26 (0, 0)) := by rw [← hw2]; exact alloc_second _ _ _
  clear hw2
  have HB2 := Lib.hid hb2
  have Z0 := Lib.hid z0
  have Z1 := Lib.hid z1
  have hst : ∀ (qs : List Nat) w3 w4, But w.heap.size [5, 4] w2.drew w3 → But w.heap.size qs w3 w4 → Still Parts w3 w4 := fun qs w3 w4 h k => by
    obtain ⟨cs, h1, h2, h3⟩ := h.row _ _ Z0.out
    exact k.still h1 (by unfold Parts; decide)
  have HST := Lib.hid hst
  clear hb2 z0 z1 hst
  have hfr : ∀ w3, But w.heap.size [5, 4] w2.drew w3 → (∀ j, w3.frozen? ⟨w.heap.size, j, none⟩ = false) := fun w3 h j => by
    obtain ⟨cs, h1, h2, h3⟩ := h.row _ _ Z0.out
    exact free_of_block h1 j
  have HFR := Lib.hid hfr
  clear hfr
  have hc : ∀ (qs : List Nat) w3 w4, But w.heap.size [5, 4] w2.drew w3 → But w.heap.size qs w3 w4 → ∀ j v, j ∉ qs → w3.cell? ⟨w.heap.size, j, none⟩ = some v → w4.cell? ⟨w.heap.size, j, none⟩ = some v := fun qs w3 w4 h k j v hj hv => by
    obtain ⟨cs, h1, h2, h3⟩ := h.row _ _ Z0.out
    exact k.cell h1 hj hv
  have HC := Lib.hid hc
  clear hc
  refine' Pas.wp_region_pass (fun w w' => Below w.heap.size w w') (But w.heap.size [5, 4]) 10 (by kernel_rfl) (by kernel_rfl) (by kernel_rfl) (by kernel_rfl) (by kernel_rfl) (by kernel_rfl)
    (fun w => But.refl _ _ w) (fun h k => But.trans h k) [(fun w3 => w3.cell? ⟨w.heap.size, 5, none⟩ = some x ∧ Ints b w3 x m.peers, 7), (fun w3 => w3.cell? ⟨w.heap.size, 4, none⟩ = some u ∧ w3.ownsRow b 53 7 u m.pods.length (flat m.pods.length c), 9)] ?_ ?_ (fun vals => ?_)
  case refine'_2 =>
    have a1 : Ints b w2 x m.peers := own_below HI.out HB2.out
    have a2 : w2.ownsRow b 53 7 u m.pods.length (flat m.pods.length c) := own_below HR.out HB2.out
    simp only [List.forall_mem_cons]
    exact ⟨⟨cell_of_block (w := w2) Z0.out 5 _ rfl, own_drew a1⟩, ⟨cell_of_block (w := w2) Z0.out 4 _ rfl, own_drew a2⟩, by simp⟩
  case refine'_3 =>
    simp only [List.forall_mem_cons]
    exact ⟨fun w1 w2 k h => ⟨cell_below h.1 k, own_below h.2 k⟩, fun w1 w2 k h => ⟨cell_below h.1 k, own_below h.2 k⟩, by simp⟩
  rotate_left
  simp only [List.take_succ_cons, List.take_zero, List.drop_succ_cons, List.drop_zero]
  (apply Pas.pas_x (fun _ _ h => But.of_below h) rfl; (focus (intro w3 hR hD hP K hK; replace hK := Lib.hid hK; clear hR hD hP; go_simp; exact hK.out _ (Below.refl _ _))); simp only [Act.put, List.setIfInBounds_toArray, List.set_cons_zero, List.set_cons_succ, Nat.reduceAdd, List.cons_append, List.nil_append])
  (apply Pas.pas_x (e := x) (fun _ _ h => But.of_below h) rfl; (focus (intro w3 hR hD hP K hK; replace hK := Lib.hid hK; have c5 := (hP _ (List.mem_cons_self ..) (.inr (by kernel_rfl))).1; clear hR hD hP; go_simp; exact hK.out _ (Below.refl _ _))); simp only [Act.put, List.setIfInBounds_toArray, List.set_cons_zero, List.set_cons_succ, Nat.reduceAdd, List.cons_append, List.nil_append])
  (apply Pas.pas_r (fun v w' => Ints w.heap.size w' v m.peers) (fun _ _ h => But.of_below h) rfl (fun v w1 w2 h k => h.still (Still.of_below k)); (focus (intro w3 hR hD hP K hK; replace hK := Lib.hid hK; have c5 := (hP _ (List.mem_cons_self ..) (.inr (by kernel_rfl))).2; have hl := hR.size; clear hR hD hP; go_simp; refine (clone_ints _ _ _ _ _ c5 (one_ints _) (by have := HF.out.2.1; omega)).mono ?_; rintro r w4 ⟨v', rfl, h1, h2⟩; exact hK.out _ _ h2 (own_base h1 (Nat.le_trans HB2.out.size hl)))); simp only [Act.put, List.setIfInBounds_toArray, List.set_cons_zero, List.set_cons_succ, Nat.reduceAdd, List.cons_append, List.nil_append])
  (apply Pas.pas_x (fun _ _ h => But.of_below h) rfl; (focus (intro w3 hR hD hP K hK; replace hK := Lib.hid hK; clear hR hD hP; go_simp; exact hK.out _ (Below.refl _ _))); simp only [Act.put, List.setIfInBounds_toArray, List.set_cons_zero, List.set_cons_succ, Nat.reduceAdd, List.cons_append, List.nil_append])
  (apply Pas.pas_x (e := u) (fun _ _ h => But.of_below h) rfl; (focus (intro w3 hR hD hP K hK; replace hK := Lib.hid hK; have c5 := (hP _ (List.mem_cons_of_mem _ (List.mem_cons_self ..)) (.inr (by kernel_rfl))).1; clear hR hD hP; go_simp; exact hK.out _ (Below.refl _ _))); simp only [Act.put, List.setIfInBounds_toArray, List.set_cons_zero, List.set_cons_succ, Nat.reduceAdd, List.cons_append, List.nil_append])
  (apply Pas.pas_r (fun v w' => w'.ownsRow w.heap.size 53 7 v m.pods.length (flat m.pods.length c)) (fun _ _ h => But.of_below h) rfl (fun v w1 w2 h k => own_below h k); (focus (intro w3 hR hD hP K hK; replace hK := Lib.hid hK; have c5 := (hP _ (List.mem_cons_of_mem _ (List.mem_cons_self ..)) (.inr (by kernel_rfl))).2; have hl := hR.size; clear hR hD hP; go_simp; refine (clone_pods _ _ _ _ _ c5 (one_pods HP.out) (by have := HF.out.1; omega)).mono ?_; rintro r w4 ⟨v', rfl, h1, h2⟩; exact hK.out _ _ h2 (own_base h1 (Nat.le_trans HB2.out.size hl)))); simp only [Act.put, List.setIfInBounds_toArray, List.set_cons_zero, List.set_cons_succ, Nat.reduceAdd, List.cons_append, List.nil_append])
  (apply Pas.pas_x (fun _ _ h => But.of_below h) rfl; (focus (intro w3 hR hD hP K hK; replace hK := Lib.hid hK; clear hR hD hP; go_simp; exact hK.out _ (Below.refl _ _))); simp only [Act.put, List.setIfInBounds_toArray, List.set_cons_zero, List.set_cons_succ, Nat.reduceAdd, List.cons_append, List.nil_append])
  (apply Pas.pas_s (But w.heap.size [5]) (fun _ w' => ∃ v, Ints w.heap.size w' v m.peers ∧ w'.cell? ⟨w.heap.size, 5, none⟩ = some v) (fun _ _ h => h.mono (by simp)) rfl (fun _ w1 w2 h k => by obtain ⟨v, h1, h2⟩ := h; exact ⟨v, h1.still (Still.of_below k), cell_below h2 k⟩); (focus (intro w3 hR hD hP K hK; replace hK := Lib.hid hK; have c5 := (hP _ (List.mem_cons_self ..) (.inl (by kernel_rfl))).1; have hv0 : Ints w.heap.size w3 (vals 2) m.peers := hD 2 (by kernel_rfl); obtain ⟨sa, sl, sc, ev⟩ := own_slice hv0; rw [ev] at hv0; simp only [ev] at hK ⊢; have hv := Lib.hid hv0; clear hv0 ev; have f5 := HFR.out w3 hR 5; obtain ⟨cs, g1, g2, _⟩ := hR.row _ _ Z0.out; have hs := Lib.hid ((But.set w3 w.heap.size 5 (.slice sa sl sc)).still g1 (T := Parts) (by unfold Parts; decide)); replace g1 := Lib.hid g1; clear hR hD hP; go_simp; exact hK.out undef _ (But.set _ _ _ _) ⟨_, hv.out.still hs.out, cell_of_block (heap_setCell_same _ _ _ _ _ _ g1.out) 5 _ (by simp [g2])⟩)); simp only [Act.put, List.setIfInBounds_toArray, List.set_cons_zero, List.set_cons_succ, Nat.reduceAdd, List.cons_append, List.nil_append])
  (apply Pas.pas_x (fun _ _ h => But.of_below h) rfl; (focus (intro w3 hR hD hP K hK; replace hK := Lib.hid hK; clear hR hD hP; go_simp; exact hK.out _ (Below.refl _ _))); simp only [Act.put, List.setIfInBounds_toArray, List.set_cons_zero, List.set_cons_succ, Nat.reduceAdd, List.cons_append, List.nil_append])
  (apply Pas.pas_s (But w.heap.size [4]) (fun _ w' => ∃ v, w'.ownsRow w.heap.size 53 7 v m.pods.length (flat m.pods.length c) ∧ w'.cell? ⟨w.heap.size, 4, none⟩ = some v) (fun _ _ h => h.mono (by simp)) rfl (fun _ w1 w2 h k => by obtain ⟨v, h1, h2⟩ := h; exact ⟨v, own_below h1 k, cell_below h2 k⟩); (focus (intro w3 hR hD hP K hK; replace hK := Lib.hid hK; have c5 := (hP _ (List.mem_cons_of_mem _ (List.mem_cons_self ..)) (.inl (by kernel_rfl))).1; have hv0 : w3.ownsRow w.heap.size 53 7 (vals 5) m.pods.length (flat m.pods.length c) := hD 5 (by kernel_rfl); obtain ⟨sa, sl, sc, ev⟩ := own_slice hv0; rw [ev] at hv0; simp only [ev] at hK ⊢; have hv := Lib.hid hv0; clear hv0 ev; have f5 := HFR.out w3 hR 4; obtain ⟨cs, g1, g2, _⟩ := hR.row _ _ Z0.out; have hs := Lib.hid ((But.set w3 w.heap.size 4 (.slice sa sl sc)).still g1 (T := Parts) (by unfold Parts; decide)); replace g1 := Lib.hid g1; clear hR hD hP; go_simp; exact hK.out undef _ (But.set _ _ _ _) ⟨_, own_still hv.out hs.out (.inr (.inr rfl)), cell_of_block (heap_setCell_same _ _ _ _ _ _ g1.out) 4 _ (by simp [g2])⟩)); simp only [Act.put, List.setIfInBounds_toArray, List.set_cons_zero, List.set_cons_succ, Nat.reduceAdd, List.cons_append, List.nil_append])
  refine Pas.pas_ends ?_ ?_ fun w3 hR hp => ?_
  · simp only [Pas.AllK, List.append_assoc, List.nil_append, List.cons_append, true_and, and_true, true_or, or_true, Nat.reduceAdd]
    exact ⟨⟨.inr fun v w1 w2 h k q => q.still (HST.out _ _ _ h k), .inr fun v w1 w2 h k q => own_still q (HST.out _ _ _ h k) (.inr (.inr rfl)), .inr fun v w1 w2 h k q => by
      obtain ⟨v', q1, q2⟩ := q
      exact ⟨v', own_still q1 (HST.out _ _ _ h k) (.inr (.inr rfl)), HC.out _ _ _ h k 4 _ (by decide) q2⟩⟩,
      .inr fun v w1 w2 h k q => q.still (HST.out _ _ _ h k), .inr fun v w1 w2 h k q => own_still q (HST.out _ _ _ h k) (.inr (.inr rfl)), .inr fun v w1 w2 h k q => by
      obtain ⟨v', q1, q2⟩ := q
      exact ⟨v', q1.still (HST.out _ _ _ h k), HC.out _ _ _ h k 5 _ (by decide) q2⟩⟩
  · simp only [Pas.AllK, List.append_assoc, List.nil_append, List.cons_append, true_and, and_true, true_or, or_true, Nat.reduceAdd, List.forall_mem_cons]
    exact ⟨⟨.inr fun w1 w2 h k q => ⟨HC.out _ _ _ h k 4 _ (by decide) q.1, own_still q.2 (HST.out _ _ _ h k) (.inr (.inr rfl))⟩, by simp⟩,
      .inr fun w1 w2 h k q => ⟨HC.out _ _ _ h k 5 _ (by decide) q.1, q.2.still (HST.out _ _ _ h k)⟩, by simp⟩
  obtain ⟨x', hx', cx⟩ := hp 7 (by simp)
  obtain ⟨u', hu', cu⟩ := hp 9 (by simp)
  clear hp
  obtain ⟨cs, k1, k2, k3⟩ := hR.row _ _ Z0.out
  have ecs := arr7 (a := .int .i64 m.kind) (b := .int .i64 m.src) (c := .int .i64 m.dst) (d := .int .i64 m.gang) (g := .bool m.yes) k2 (by rw [k3 0 (by decide)]; rfl) (by rw [k3 1 (by decide)]; rfl) (by rw [k3 2 (by decide)]; rfl) (by rw [k3 3 (by decide)]; rfl) (at_cell k1 cu) (at_cell k1 cx) (by rw [k3 6 (by decide)]; rfl)
  rw [ecs] at k1
  clear ecs k2 k3 cu cx cs
  have hsz : w.heap.size + 1 < w2.heap.size := (Array.getElem?_eq_some_iff.1 Z1.out).1
  have y1 : w3.heap[w.heap.size + 1]? = some (.cells #[.int .i64 0, .int .i64 0, .int .i64 0, .int .i64 0, .slice none 0 0, .slice none 0 0, .bool false] 26 (0, 0)) := (hR.block _ hsz (by omega)).trans Z1.out
  have HB3 := Lib.hid (Below.but HB2.out.drew hR (Nat.le_refl _) (Nat.le_of_lt (Nat.lt_of_succ_lt hsz)))
  have S2 := Lib.hid (hR.still (T := Parts) (w := w2.drew) Z0.out (by unfold Parts; decide))
  clear hR hsz HST HC HFR
  obtain ⟨ua, uc, rfl⟩ := own_slicen hu'
  have HU := Lib.hid hu'
  have HX := Lib.hid hx'
  have K1 := Lib.hid k1
  have Y1 := Lib.hid y1
  have c4 : w3.cell? ⟨w.heap.size, 4, none⟩ = some (.slice ua m.pods.length uc) := cell_of_block k1 4 _ rfl
  clear hu' hx' k1 y1
  go_wp2
  go_loopw [16] (fun i wr => ∃ k : Nat, i = .int .i64 k ∧ k ≤ m.pods.length ∧ Below w.heap.size w wr ∧ Still (fun e => e = 9 ∨ e = 3 ∨ e = 26) w3 wr ∧
    ∃ c', wr.ownsRow w.heap.size 53 7 (.slice ua m.pods.length uc) m.pods.length (flat m.pods.length c') ∧ ∀ i, i < m.pods.length → (i < k → PodAt w.heap.size wr (c' i) (m.pods.getD i noPod)) ∧ (k ≤ i → c' i = c i)) (fun i _ => m.pods.length - (intOf i).toNat)
  case atStart =>
    exact ⟨0, rfl, Nat.zero_le _, HB3.out, fun _ _ _ _ h => h, c, HU.out, fun i hi => ⟨fun h => absurd h (Nat.not_lt_zero _), fun _ => rfl⟩⟩
  case round =>
    obtain ⟨k, rfl, hk, hbr, hsr, c', hown, hel⟩ := hrel
    have k1 := hsr _ _ _ (.inr (.inr rfl)) K1.out
    have y1 := hsr _ _ _ (.inr (.inr rfl)) Y1.out
    have HBR := Lib.hid hbr
    have HSR := Lib.hid hsr
    have HO := Lib.hid hown
    have HE := Lib.hid hel
    clear hbr hsr hown hel c4
    have hn30 := HF.out.1
    by_cases hlt : k < m.pods.length
    · have hlt' : (k : Int) < m.pods.length := by omega
      obtain ⟨g, cap, eu, hg, hgs⟩ : ∃ g cap, Value.slice ua m.pods.length uc = .slice (some ⟨g, 0, none⟩) m.pods.length cap ∧ w.heap.size ≤ g ∧ g < wr.heap.size := by
        rcases own_forms HO.out with ⟨_, h0, _⟩ | h
        · omega
        · exact h
      injection eu with e1 e2 e3
      subst e1 e3
      obtain ⟨pk, hpk⟩ : ∃ pk, pk = m.pods.getD k noPod := ⟨_, rfl⟩
      have hpod := HP.out k hlt
      rw [← hpk] at hpod
      obtain ⟨pu, pv, hc, hpu, hpv⟩ := hpod
      have HPK := Lib.hid hpk
      clear hpk
      obtain ⟨a1, l1, c1, rfl⟩ := own_slice hpu
      obtain ⟨a2, l2, c2, rfl⟩ := own_slice hpv
      have ec : c' k = c k := (HE.out k hlt).2 (Nat.le_refl _)
      have hl7 : ∀ i, i < m.pods.length → (c' i).length = 7 := fun i hi => by
        by_cases hik : i < k
        · exact ((HE.out i hi).1 hik).len
        · rw [(HE.out i hi).2 (by omega)]; exact (HP.out i hi).len
      have hcell : ∀ j, j < 7 → ∀ v, (c' k)[j]? = some v → wr.cell? ⟨g, k * 7 + j, none⟩ = some v := fun j hj v hv => by
        rw [HO.out.cellAt _ (by have := Nat.mul_le_mul_right 7 (show k + 1 ≤ m.pods.length from hlt); omega), flat_get hl7 hlt hj, hv]
      rw [ec, hc] at hcell
      have e0 : wr.cell? ⟨g, k * 7, none⟩ = _ := hcell 0 (by omega) _ rfl
      have e1 := hcell 1 (by omega) _ rfl
      have e2 := hcell 2 (by omega) _ rfl
      have e3 := hcell 3 (by omega) _ rfl
      have e4 := hcell 4 (by omega) _ rfl
      have e5 := hcell 5 (by omega) _ rfl
      have e6 := hcell 6 (by omega) _ rfl
      have HL7 := Lib.hid hl7
      have HU1 := Lib.hid hpu
      have HV1 := Lib.hid hpv
      have HC' := Lib.hid hc
      have EC := Lib.hid ec
      clear hcell hl7 hpu hpv hc ec
      go_wp2
      generalize hw5 : World.alloc wr _ = w5
      have hb5 : Below wr.heap.size wr w5 := by rw [← hw5]; exact below_alloc' (Below.refl _ _) _
      have zp : w5.heap[wr.heap.size]? = some (.cells #[.string pk.name, .int .i64 pk.shard, .int .i64 pk.cpu, .int .i64 pk.mem, .slice a1 l1 c1, .slice a2 l2 c2, .bool pk.alone] 53 (0, 0)) := by rw [← hw5]; exact alloc_at _ _
      clear hw5
      have hrow5 := own_below HO.out hb5
      have h5 := block_below k1 hb5
      have s1 := own_below HU1.out (Below.but_size HBR.out hb5)
      have s2 := own_below HV1.out (Below.but_size HBR.out hb5)
      obtain ⟨cur, hcur, hcs⟩ : ∃ cur, w5.heap[g]? = some (.cells cur 53 (0, 0)) ∧ (k + 1) * 7 ≤ cur.size := by
        rcases hrow5.2 with ⟨h0, _⟩ | ⟨g', cap', cur, hvv, _, hg', h3, h4, h5, _⟩
        · simp at h0
        · simp only [Value.slice.injEq, Option.some.injEq, Addr.mk.injEq, and_true, true_and] at hvv
          obtain ⟨rfl, rfl⟩ := hvv
          refine ⟨cur, hg', ?_⟩
          rw [h5]
          exact Nat.mul_le_mul_right 7 (by omega)
      have hneH : w.heap.size ≠ g := by
        rintro rfl
        rw [h5] at hcur
        injection hcur with hcur
        injection hcur with _ hcur
        exact absurd hcur (by decide)
      have hneP : wr.heap.size ≠ g := by omega
      have hq : ∀ w6, But g [k * 7 + 4, k * 7 + 5] w5.drew w6 → w6.cell? ⟨w.heap.size, 4, none⟩ = some (.slice (some ⟨g, 0, none⟩) m.pods.length uc) ∧ w6.cell? ⟨wr.heap.size, 4, none⟩ = some (.slice a1 l1 c1) ∧ w6.cell? ⟨wr.heap.size, 5, none⟩ = some (.slice a2 l2 c2) ∧
          Strs b w6 (.slice a1 l1 c1) pk.picks ∧ Strs b w6 (.slice a2 l2 c2) pk.bears ∧ w.heap.size ≤ w6.heap.size ∧ ∃ cs, w6.heap[g]? = some (.cells cs 53 (0, 0)) ∧ (k + 1) * 7 ≤ cs.size := fun w6 h => by
        have hsl := h.still (T := fun e => e = 9) (w := w5.drew) hcur (by decide)
        have hH : w6.heap[w.heap.size]? = _ := (h.block _ (Array.getElem?_eq_some_iff.1 h5).1 hneH).trans h5
        have hP : w6.heap[wr.heap.size]? = _ := (h.block _ (Array.getElem?_eq_some_iff.1 zp).1 hneP).trans zp
        obtain ⟨cs, h1, h2, _⟩ := h.row _ _ hcur
        exact ⟨cell_of_block hH 4 _ rfl, cell_of_block hP 4 _ rfl, cell_of_block hP 5 _ rfl, own_still (own_drew s1) hsl rfl, own_still (own_drew s2) hsl rfl, Nat.le_trans (Nat.le_trans HBR.out.size hb5.size) h.size, cs, h1, by omega⟩
      have HQ := Lib.hid hq
      have HFK : Hid (pk.picks.length ≤ 1073741824 ∧ pk.bears.length ≤ 1073741824) := by rw [HPK.out]; exact HF.out.2.2 k hlt
      have H5 := Lib.hid hb5
      have ZC := Lib.hid hcur
      have HR5 := Lib.hid hrow5
      have HNH := Lib.hid hneH
      have B5 := Lib.hid h5
      clear hb5 zp hrow5 h5 s1 s2 hcur hcs hneH hneP hq e0 e1 e2 e3 e4 e5 e6 k1 y1
      have hss : ∀ (qs : List Nat) w1 w2, But g [k * 7 + 4, k * 7 + 5] w5.drew w1 → But g qs w1 w2 → Still (fun e => e = 9) w1 w2 := fun qs w1 w2 h k => by
        obtain ⟨cs, h1, _⟩ := h.row _ _ ZC.out
        exact k.still h1 (by decide)
      have HSS := Lib.hid hss
      clear hss
      have hcc : ∀ (qs : List Nat) w1 w2, But g [k * 7 + 4, k * 7 + 5] w5.drew w1 → But g qs w1 w2 → ∀ j v, j ∉ qs → w1.cell? ⟨g, j, none⟩ = some v → w2.cell? ⟨g, j, none⟩ = some v := fun qs w3 w4 h k j v hj hv => by
        obtain ⟨cs, h1, h2, h3⟩ := h.row _ _ ZC.out
        exact k.cell h1 hj hv
      have HCC := Lib.hid hcc
      clear hcc
      refine' Pas.wp_region_pass (fun w w' => Below w.heap.size w w') (But g [k * 7 + 4, k * 7 + 5]) 18 (by kernel_rfl) (by kernel_rfl) (by kernel_rfl) (by kernel_rfl) (by kernel_rfl) (by kernel_rfl)
        (fun w => But.refl _ _ w) (fun h k => But.trans h k) [] (by simp) (by simp) (fun vals2 => ?_)
      rotate_left
      simp only [List.take_succ_cons, List.take_zero, List.drop_succ_cons, List.drop_zero]
      (apply Pas.pas_x (fun _ _ h => But.of_below h) rfl; (focus (intro w6 hR hD hP K hK; replace hK := Lib.hid hK; obtain ⟨q1, q2, q3, q4, q5, q6, q7⟩ := HQ.out w6 hR; clear hR hD hP q4 q5 q6 q7; go_simp; exact hK.out _ (Below.refl _ _))); simp only [Act.put, List.setIfInBounds_toArray, List.set_cons_zero, List.set_cons_succ, Nat.reduceAdd, List.cons_append, List.nil_append])
      (apply Pas.pas_x (fun _ _ h => But.of_below h) rfl; (focus (intro w6 hR hD hP K hK; replace hK := Lib.hid hK; obtain ⟨q1, q2, q3, q4, q5, q6, q7⟩ := HQ.out w6 hR; clear hR hD hP q4 q5 q6 q7; go_simp; exact hK.out _ (Below.refl _ _))); simp only [Act.put, List.setIfInBounds_toArray, List.set_cons_zero, List.set_cons_succ, Nat.reduceAdd, List.cons_append, List.nil_append])
      (apply Pas.pas_x (fun _ _ h => But.of_below h) rfl; (focus (intro w6 hR hD hP K hK; replace hK := Lib.hid hK; obtain ⟨q1, q2, q3, q4, q5, q6, q7⟩ := HQ.out w6 hR; clear hR hD hP q4 q5 q6 q7; go_simp; exact hK.out _ (Below.refl _ _))); simp only [Act.put, List.setIfInBounds_toArray, List.set_cons_zero, List.set_cons_succ, Nat.reduceAdd, List.cons_append, List.nil_append])
      (apply Pas.pas_x (fun _ _ h => But.of_below h) rfl; (focus (intro w6 hR hD hP K hK; replace hK := Lib.hid hK; obtain ⟨q1, q2, q3, q4, q5, q6, q7⟩ := HQ.out w6 hR; clear hR hD hP q4 q5 q6 q7; go_simp; exact hK.out _ (Below.refl _ _))); simp only [Act.put, List.setIfInBounds_toArray, List.set_cons_zero, List.set_cons_succ, Nat.reduceAdd, List.cons_append, List.nil_append])
      (apply Pas.pas_x (fun _ _ h => But.of_below h) rfl; (focus (intro w6 hR hD hP K hK; replace hK := Lib.hid hK; obtain ⟨q1, q2, q3, q4, q5, q6, q7⟩ := HQ.out w6 hR; clear hR hD hP q4 q5 q6 q7; go_simp; exact hK.out _ (Below.refl _ _))); simp only [Act.put, List.setIfInBounds_toArray, List.set_cons_zero, List.set_cons_succ, Nat.reduceAdd, List.cons_append, List.nil_append])
      (apply Pas.pas_x (fun _ _ h => But.of_below h) rfl; (focus (intro w6 hR hD hP K hK; replace hK := Lib.hid hK; obtain ⟨q1, q2, q3, q4, q5, q6, q7⟩ := HQ.out w6 hR; clear hR hD hP q4 q5 q6 q7; go_simp; exact hK.out _ (Below.refl _ _))); simp only [Act.put, List.setIfInBounds_toArray, List.set_cons_zero, List.set_cons_succ, Nat.reduceAdd, List.cons_append, List.nil_append])
      (apply Pas.pas_x (fun _ _ h => But.of_below h) rfl; (focus (intro w6 hR hD hP K hK; replace hK := Lib.hid hK; obtain ⟨q1, q2, q3, q4, q5, q6, q7⟩ := HQ.out w6 hR; clear hR hD hP q4 q5 q6 q7; go_simp; exact hK.out _ (Below.refl _ _))); simp only [Act.put, List.setIfInBounds_toArray, List.set_cons_zero, List.set_cons_succ, Nat.reduceAdd, List.cons_append, List.nil_append])
      (apply Pas.pas_x (fun _ _ h => But.of_below h) rfl; (focus (intro w6 hR hD hP K hK; replace hK := Lib.hid hK; obtain ⟨q1, q2, q3, q4, q5, q6, q7⟩ := HQ.out w6 hR; clear hR hD hP q4 q5 q6 q7; go_simp; exact hK.out _ (Below.refl _ _))); simp only [Act.put, List.setIfInBounds_toArray, List.set_cons_zero, List.set_cons_succ, Nat.reduceAdd, List.cons_append, List.nil_append])
      (apply Pas.pas_r (fun v w' => Strs w.heap.size w' v pk.picks) (fun _ _ h => But.of_below h) rfl (fun v w1 w2 h k => h.still (Still.of_below k)); (focus (intro w6 hR hD hP K hK; replace hK := Lib.hid hK; obtain ⟨q1, q2, q3, q4, q5, q6, q7⟩ := HQ.out w6 hR; have hq := q4; clear hR hD hP q1 q2 q3 q4 q5 q7; go_simp; refine (clone_strs _ _ _ _ _ hq (one_strs _) (by have := HFK.out.1; omega)).mono ?_; rintro r w7 ⟨v', rfl, h1, h2⟩; exact hK.out _ _ h2 (own_base h1 q6))); simp only [Act.put, List.setIfInBounds_toArray, List.set_cons_zero, List.set_cons_succ, Nat.reduceAdd, List.cons_append, List.nil_append])
      (apply Pas.pas_x (fun _ _ h => But.of_below h) rfl; (focus (intro w6 hR hD hP K hK; replace hK := Lib.hid hK; obtain ⟨q1, q2, q3, q4, q5, q6, q7⟩ := HQ.out w6 hR; clear hR hD hP q4 q5 q6 q7; go_simp; exact hK.out _ (Below.refl _ _))); simp only [Act.put, List.setIfInBounds_toArray, List.set_cons_zero, List.set_cons_succ, Nat.reduceAdd, List.cons_append, List.nil_append])
      (apply Pas.pas_x (fun _ _ h => But.of_below h) rfl; (focus (intro w6 hR hD hP K hK; replace hK := Lib.hid hK; obtain ⟨q1, q2, q3, q4, q5, q6, q7⟩ := HQ.out w6 hR; clear hR hD hP q4 q5 q6 q7; go_simp; exact hK.out _ (Below.refl _ _))); simp only [Act.put, List.setIfInBounds_toArray, List.set_cons_zero, List.set_cons_succ, Nat.reduceAdd, List.cons_append, List.nil_append])
      (apply Pas.pas_r (fun v w' => Strs w.heap.size w' v pk.bears) (fun _ _ h => But.of_below h) rfl (fun v w1 w2 h k => h.still (Still.of_below k)); (focus (intro w6 hR hD hP K hK; replace hK := Lib.hid hK; obtain ⟨q1, q2, q3, q4, q5, q6, q7⟩ := HQ.out w6 hR; have hq := q5; clear hR hD hP q1 q2 q3 q4 q5 q7; go_simp; refine (clone_strs _ _ _ _ _ hq (one_strs _) (by have := HFK.out.2; omega)).mono ?_; rintro r w7 ⟨v', rfl, h1, h2⟩; exact hK.out _ _ h2 (own_base h1 q6))); simp only [Act.put, List.setIfInBounds_toArray, List.set_cons_zero, List.set_cons_succ, Nat.reduceAdd, List.cons_append, List.nil_append])
      (apply Pas.pas_x (fun _ _ h => But.of_below h) rfl; (focus (intro w6 hR hD hP K hK; replace hK := Lib.hid hK; obtain ⟨q1, q2, q3, q4, q5, q6, q7⟩ := HQ.out w6 hR; clear hR hD hP q4 q5 q6 q7; go_simp; exact hK.out _ (Below.refl _ _))); simp only [Act.put, List.setIfInBounds_toArray, List.set_cons_zero, List.set_cons_succ, Nat.reduceAdd, List.cons_append, List.nil_append])
      (apply Pas.pas_x (fun _ _ h => But.of_below h) rfl; (focus (intro w6 hR hD hP K hK; replace hK := Lib.hid hK; obtain ⟨q1, q2, q3, q4, q5, q6, q7⟩ := HQ.out w6 hR; clear hR hD hP q4 q5 q6 q7; go_simp; exact hK.out _ (Below.refl _ _))); simp only [Act.put, List.setIfInBounds_toArray, List.set_cons_zero, List.set_cons_succ, Nat.reduceAdd, List.cons_append, List.nil_append])
      (apply Pas.pas_s (But g [k * 7 + 4]) (fun _ w' => ∃ v, Strs w.heap.size w' v pk.picks ∧ w'.cell? ⟨g, k * 7 + 4, none⟩ = some v) (fun _ _ h => h.mono (by simp)) rfl (fun _ w1 w2 h k => by obtain ⟨v, h1, h2⟩ := h; exact ⟨v, h1.still (Still.of_below k), cell_below h2 k⟩); (focus (intro w6 hR hD hP K hK; replace hK := Lib.hid hK; have hv0 : Strs w.heap.size w6 (vals2 8) pk.picks := hD 8 (by kernel_rfl); obtain ⟨sa, sl, sc, ev⟩ := own_slice hv0; rw [ev] at hv0; simp only [ev] at hK ⊢; obtain ⟨q1, q2, q3, q4, q5, q6, q7⟩ := HQ.out w6 hR; obtain ⟨cs, g1, g2⟩ := q7; have hcl : ∃ v, w6.cell? ⟨g, k * 7 + 4, none⟩ = some v := ⟨_, cell_of_block g1 _ _ (Array.getElem?_eq_getElem (by omega))⟩; obtain ⟨ov, hov⟩ := hcl; have hfz := free_of_block g1 (k * 7 + 4); have hs := Lib.hid (hv0.still' ((But.set w6 g (k * 7 + 4) (.slice sa sl sc)).still g1 (T := fun e => e = 9) (by decide))); replace g1 := Lib.hid g1; replace g2 := Lib.hid g2; clear hv0 ev hR hD hP q1 q2 q3 q4 q5 q6; go_simp; exact hK.out undef _ (But.set _ _ _ _) ⟨_, hs.out, cell_of_block (heap_setCell_same _ _ _ _ _ _ g1.out) _ _ (by have := g2.out; rw [Array.getElem?_setIfInBounds_self_of_lt (by omega)])⟩)); simp only [Act.put, List.setIfInBounds_toArray, List.set_cons_zero, List.set_cons_succ, Nat.reduceAdd, List.cons_append, List.nil_append])
      (apply Pas.pas_x (fun _ _ h => But.of_below h) rfl; (focus (intro w6 hR hD hP K hK; replace hK := Lib.hid hK; obtain ⟨q1, q2, q3, q4, q5, q6, q7⟩ := HQ.out w6 hR; clear hR hD hP q4 q5 q6 q7; go_simp; exact hK.out _ (Below.refl _ _))); simp only [Act.put, List.setIfInBounds_toArray, List.set_cons_zero, List.set_cons_succ, Nat.reduceAdd, List.cons_append, List.nil_append])
      (apply Pas.pas_x (fun _ _ h => But.of_below h) rfl; (focus (intro w6 hR hD hP K hK; replace hK := Lib.hid hK; obtain ⟨q1, q2, q3, q4, q5, q6, q7⟩ := HQ.out w6 hR; clear hR hD hP q4 q5 q6 q7; go_simp; exact hK.out _ (Below.refl _ _))); simp only [Act.put, List.setIfInBounds_toArray, List.set_cons_zero, List.set_cons_succ, Nat.reduceAdd, List.cons_append, List.nil_append])
      (apply Pas.pas_s (But g [k * 7 + 5]) (fun _ w' => ∃ v, Strs w.heap.size w' v pk.bears ∧ w'.cell? ⟨g, k * 7 + 5, none⟩ = some v) (fun _ _ h => h.mono (by simp)) rfl (fun _ w1 w2 h k => by obtain ⟨v, h1, h2⟩ := h; exact ⟨v, h1.still (Still.of_below k), cell_below h2 k⟩); (focus (intro w6 hR hD hP K hK; replace hK := Lib.hid hK; have hv0 : Strs w.heap.size w6 (vals2 11) pk.bears := hD 11 (by kernel_rfl); obtain ⟨sa, sl, sc, ev⟩ := own_slice hv0; rw [ev] at hv0; simp only [ev] at hK ⊢; obtain ⟨q1, q2, q3, q4, q5, q6, q7⟩ := HQ.out w6 hR; obtain ⟨cs, g1, g2⟩ := q7; have hcl : ∃ v, w6.cell? ⟨g, k * 7 + 5, none⟩ = some v := ⟨_, cell_of_block g1 _ _ (Array.getElem?_eq_getElem (by omega))⟩; obtain ⟨ov, hov⟩ := hcl; have hfz := free_of_block g1 (k * 7 + 5); have hs := Lib.hid (hv0.still' ((But.set w6 g (k * 7 + 5) (.slice sa sl sc)).still g1 (T := fun e => e = 9) (by decide))); replace g1 := Lib.hid g1; replace g2 := Lib.hid g2; clear hv0 ev hR hD hP q1 q2 q3 q4 q5 q6; go_simp; exact hK.out undef _ (But.set _ _ _ _) ⟨_, hs.out, cell_of_block (heap_setCell_same _ _ _ _ _ _ g1.out) _ _ (by have := g2.out; rw [Array.getElem?_setIfInBounds_self_of_lt (by omega)])⟩)); simp only [Act.put, List.setIfInBounds_toArray, List.set_cons_zero, List.set_cons_succ, Nat.reduceAdd, List.cons_append, List.nil_append])
      refine Pas.pas_ends ?_ ?_ fun w6 hR hp => ?_
      · simp only [Pas.AllK, List.append_assoc, List.nil_append, List.cons_append, true_and, and_true, true_or, or_true, Nat.reduceAdd]
        exact ⟨⟨.inr fun v w1 w2 h k q => q.still' (HSS.out _ _ _ h k), .inr fun v w1 w2 h k q => q.still' (HSS.out _ _ _ h k), .inr fun v w1 w2 h k q => by
          obtain ⟨v', q1, q2⟩ := q
          exact ⟨v', q1.still' (HSS.out _ _ _ h k), HCC.out _ _ _ h k _ _ (by simp) q2⟩⟩,
          .inr fun v w1 w2 h k q => q.still' (HSS.out _ _ _ h k), .inr fun v w1 w2 h k q => q.still' (HSS.out _ _ _ h k), .inr fun v w1 w2 h k q => by
          obtain ⟨v', q1, q2⟩ := q
          exact ⟨v', q1.still' (HSS.out _ _ _ h k), HCC.out _ _ _ h k _ _ (by simp) q2⟩⟩
      · simp [Pas.AllK]
      obtain ⟨vp, hvp, cvp⟩ := hp 14 (by simp)
      obtain ⟨vb, hvb, cvb⟩ := hp 17 (by simp)
      clear hp
      have hr6 := hR.row_set (own_drew HR5.out) cvp cvb (by omega)
      rw [flat_set HL7.out hlt (by omega), flat_set (fun i hi => by split <;> simp [HL7.out i hi]) hlt (by omega)] at hr6
      have hsr6 := hR.still (T := fun e => e = 9 ∨ e = 3 ∨ e = 26) (w := w5.drew) ZC.out (by decide)
      have hst6 := hR.still (T := fun e => e = 9) (w := w5.drew) ZC.out (by decide)
      have HR6 := Lib.hid hr6
      have HS6 := Lib.hid (HSR.out.trans ((Still.of_below H5.out).trans hsr6))
      have HT6 := Lib.hid ((Still.of_below (T := fun e => e = 9) H5.out).trans hst6)
      have HB6 := Lib.hid (Below.but (Below.but_size HBR.out H5.out).drew hR hg (Nat.le_trans HBR.out.size H5.out.size))
      have HVP := Lib.hid hvp
      have HVB := Lib.hid hvb
      clear hr6 hsr6 hst6 hvp hvb hR cvp cvb HQ
      go_wp2
      go_roundw
      case rel =>
        refine ⟨k + 1, by go_num, by omega, HB6.out, HS6.out, _, HR6.out, fun i hi => ⟨fun hik => ?_, fun hik => ?_⟩⟩
        · by_cases e : i = k
          · subst e
            simp only [if_true]
            rw [EC.out, HC'.out, ← HPK.out]
            exact ⟨vp, vb, rfl, HVP.out, HVB.out⟩
          · simp only [if_neg e]
            exact ((HE.out i hi).1 (by omega)).still' HT6.out
        · have e : i ≠ k := by omega
          simp only [if_neg e]
          exact (HE.out i hi).2 (by omega)
      case measure => simp [intOf]; omega
    · have e : k = m.pods.length := by omega
      subst e
      obtain ⟨xa, xc, rfl⟩ := own_slicen HX.out
      have d0 := cell_of_block k1 0 _ rfl
      have d1 := cell_of_block k1 1 _ rfl
      have d2 := cell_of_block k1 2 _ rfl
      have d3 := cell_of_block k1 3 _ rfl
      have d4 := cell_of_block k1 4 _ rfl
      have d5 := cell_of_block k1 5 _ rfl
      have d6 := cell_of_block k1 6 _ rfl
      have n0 := cell_of_block y1 0 _ rfl
      have n1 := cell_of_block y1 1 _ rfl
      have n2 := cell_of_block y1 2 _ rfl
      have n3 := cell_of_block y1 3 _ rfl
      have n4 := cell_of_block y1 4 _ rfl
      have n5 := cell_of_block y1 5 _ rfl
      have n6 := cell_of_block y1 6 _ rfl
      have fr := free_of_block y1
      have KK := Lib.hid k1
      have YY := Lib.hid y1
      clear k1 y1
      go_wp2
      obtain ⟨zf, hbf⟩ := set7 wr (w.heap.size + 1) _ _ (.int .i64 m.kind) (.int .i64 m.src) (.int .i64 m.dst) (.int .i64 m.gang) (.slice ua m.pods.length uc) (.slice xa m.peers.length xc) (.bool m.yes) YY.out rfl
      generalize hwf : World.setCell _ _ _ = wf at zf hbf ⊢
      clear hwf
      have f0 := cell_of_block zf 0 _ rfl
      have f1 := cell_of_block zf 1 _ rfl
      have f2 := cell_of_block zf 2 _ rfl
      have f3 := cell_of_block zf 3 _ rfl
      have f4 := cell_of_block zf 4 _ rfl
      have f5 := cell_of_block zf 5 _ rfl
      have f6 := cell_of_block zf 6 _ rfl
      have hst := hbf.still (T := Parts) YY.out (by unfold Parts; decide)
      have hx := HX.out.still' (fun g cs e he hg => HSR.out g cs e (.inr (.inl he)) hg)
      exact bodyPost_ret (v := .agg #[.int .i64 m.kind, .int .i64 m.src, .int .i64 m.dst, .int .i64 m.gang, .slice ua m.pods.length uc, .slice xa m.peers.length xc, .bool m.yes]) (by simp [results, Tryd.results88, go_sem, f0, f1, f2, f3, f4, f5, f6]) rfl
        ⟨_, rfl, ⟨_, _, rfl, ⟨c', own_still HO.out hst (.inr (.inr rfl)), fun i hi => (((HE.out i hi).1 hi).still hst)⟩, hx.still hst⟩, Below.but HBR.out hbf (Nat.le_succ _) HBR.out.size⟩
end Go.Proofs.YtpkkjonajimefaaDoor
