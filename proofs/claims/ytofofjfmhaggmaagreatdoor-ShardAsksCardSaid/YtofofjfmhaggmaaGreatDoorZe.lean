/- A world of chapter 10's laws without nodes is opened. -/
import Derived.Test.YtofofjfmhaggmaaGreatDoorZc
set_option linter.unusedVariables false
set_option linter.unusedSimpArgs false
namespace Go.Proofs.YtofofjfmhaggmaaGreatDoor
open Go.RowKit

theorem far_world : Far 36 := by unfold Far; decide
/-- The world's box, whatever its shards are. -/
def Wb (W t y : Nat) (M : Int) (c0 c2 : Value) : Obj := .cells #[c0, .pointer (some ⟨t, 0, none⟩), c2, .pointer (some ⟨y, 0, none⟩), .int .i64 M] 36 (0, 0)
/-- The world's box alone changes, and keeps its tapes. -/
def Rw (W t y : Nat) (M : Int) (w w' : World) : Prop := Mod (fun g => g = W) w w' ∧ ∀ c0 c2, w.heap[W]? = some (Wb W t y M c0 c2) → ∃ c0' c2', w'.heap[W]? = some (Wb W t y M c0' c2')
def Rw0 (W t y : Nat) (M : Int) (w w' : World) : Prop := Mod (fun g => g = W) w w' ∧ ∀ c0 c2, w.heap[W]? = some (Wb W t y M c0 c2) → ∃ c0', w'.heap[W]? = some (Wb W t y M c0' c2)
def Rw2 (W t y : Nat) (M : Int) (w w' : World) : Prop := Mod (fun g => g = W) w w' ∧ ∀ c0 c2, w.heap[W]? = some (Wb W t y M c0 c2) → ∃ c2', w'.heap[W]? = some (Wb W t y M c0 c2')
section
variable {W t y : Nat} {M : Int} {w w' w'' : World}
theorem Rw.refl (w : World) : Rw W t y M w w := ⟨Mod.refl _ _, fun c0 c2 h => ⟨c0, c2, h⟩⟩
theorem Rw.trans (h : Rw W t y M w w') (k : Rw W t y M w' w'') : Rw W t y M w w'' := ⟨h.1.trans k.1, fun c0 c2 hh => by obtain ⟨a, b, hh⟩ := h.2 c0 c2 hh; exact k.2 a b hh⟩
theorem Rw.of_below (h : Below w.heap.size w w') : Rw W t y M w w' := ⟨Mod.of_below h, fun c0 c2 hh => ⟨c0, c2, block_below hh h⟩⟩
theorem Rw0.rw (h : Rw0 W t y M w w') : Rw W t y M w w' := ⟨h.1, fun c0 c2 hh => by obtain ⟨a, hh⟩ := h.2 c0 c2 hh; exact ⟨a, c2, hh⟩⟩
theorem Rw2.rw (h : Rw2 W t y M w w') : Rw W t y M w w' := ⟨h.1, fun c0 c2 hh => by obtain ⟨a, hh⟩ := h.2 c0 c2 hh; exact ⟨c0, a, hh⟩⟩
theorem Rw0.set {c0 c2 : Value} (h : w.heap[W]? = some (Wb W t y M c0 c2)) (v : Value) : Rw0 W t y M w (w.setCell ⟨W, 0, none⟩ v) := ⟨Mod.set (S := fun g => g = W) (.inl rfl) v, fun a b hh => ⟨v, setAt hh rfl⟩⟩
theorem Rw2.set {c0 c2 : Value} (h : w.heap[W]? = some (Wb W t y M c0 c2)) (v : Value) : Rw2 W t y M w (w.setCell ⟨W, 2, none⟩ v) := ⟨Mod.set (S := fun g => g = W) (.inl rfl) v, fun a b hh => ⟨v, setAt hh rfl⟩⟩
end
/-- What a new shard's pointer tells. -/
def NewS (N t : Nat) (M : Int) (v : Value) (w : World) : Prop := ∃ s l a b m, v = .pointer (some ⟨s, 0, none⟩) ∧ (N ≤ s ∧ N ≤ a ∧ N ≤ b ∧ N ≤ m) ∧ ShardAt (Q3 (fun g => g = t) a b m) w s l a b m t (.slice none 0 0) (ShL.bare 1 M [] 0)
def NewX (N y : Nat) (M : Int) (v : Value) (w : World) : Prop := ∃ x lb, v = .pointer (some ⟨x, 0, none⟩) ∧ (N ≤ x ∧ N ≤ lb) ∧ w.heap[lb]? = some (.cells #[.slice none 0 0, .slice none 0 0] 123 (0, 0)) ∧ w.heap[x]? = some (.cells #[.int .i64 1, .int .i64 M, .pointer (some ⟨y, 0, none⟩), .pointer (some ⟨lb, 0, none⟩), .slice none 0 0] 126 (0, 0))
section
variable {W t y N : Nat} {M : Int} {v : Value} {w w' : World}
theorem NewS.below (h : NewS N t M v w) (k : Below w.heap.size w w') : NewS N t M v w' := by
  obtain ⟨s, l, a, b, m, h1, h2, h3⟩ := h
  exact ⟨s, l, a, b, m, h1, h2, h3.below k⟩
theorem NewX.below (h : NewX N y M v w) (k : Below w.heap.size w w') : NewX N y M v w' := by
  obtain ⟨x, lb, h1, h2, h3, h4⟩ := h
  exact ⟨x, lb, h1, h2, block_below h3 k, block_below h4 k⟩
theorem NewS.box (h : NewS N t M v w) (hz : ∃ c0 c2, w.heap[W]? = some (Wb W t y M c0 c2)) (k : Mod (fun g => g = W) w w') : NewS N t M v w' := by
  obtain ⟨s, l, a, b, m, h1, h2, h3⟩ := h
  obtain ⟨c0, c2, hz⟩ := hz
  exact ⟨s, l, a, b, m, h1, h2, h3.typed far_world k fun g e => by subst e; exact ⟨_, hz⟩⟩
theorem NewX.box (h : NewX N y M v w) (hW : W < N) (k : Mod (fun g => g = W) w w') : NewX N y M v w' := by
  obtain ⟨x, lb, h1, h2, h3, h4⟩ := h
  exact ⟨x, lb, h1, h2, k.block' h3 (by omega), k.block' h4 (by omega)⟩
end
set_option maxHeartbeats 4000000 in
set_option maxRecDepth 100000 in
theorem open_nil (w : World) (M : Int) (hw : Fine w) : Calls Tryz.prog 12 #[.slice none 0 0, .int .i64 M] w fun e w' => ∃ W s l a b m t x y lb, e = .returned (.pointer (some ⟨W, 0, none⟩)) ∧ LW w' W s l a b m t (.slice none 0 0) (ShL.bare 1 M [] 0) x y M ∧ (w.heap.size ≤ a ∧ w.heap.size ≤ b ∧ w.heap.size ≤ m ∧ w.heap.size ≤ t) ∧
    w'.heap[y]? = some (.cells #[.slice none 0 0, .int .i64 0] 75 (0, 0)) ∧ w'.heap[lb]? = some (.cells #[.slice none 0 0, .slice none 0 0] 123 (0, 0)) ∧ w'.heap[x]? = some (.cells #[.int .i64 1, .int .i64 M, .pointer (some ⟨y, 0, none⟩), .pointer (some ⟨lb, 0, none⟩), .slice none 0 0] 126 (0, 0)) ∧ Below w.heap.size w w' := by
  have HW := Lib.hid hw
  clear hw
  go_enter Tryz.func12, Tryz.ntmps12
  go_wp2_with fail
  refine (tapeNew_any w).mono ?_
  rintro e w1 ⟨t, rfl, ht, hT, hb1⟩
  go_upto_region 4 with fail
  have hb2 : Below w.heap.size w ((w1.alloc (.cells #[.slice none 0 0, .int .i64 0] 75)).alloc (.cells #[.pointer none, .pointer (some ⟨t, 0, none⟩), .pointer none, .pointer (some ⟨w1.heap.size, 0, none⟩), .int .i64 M] 36)) := below_alloc' (below_alloc' hb1 _) _
  have hT2 := (hT.below (below_alloc' (Below.refl _ _) (.cells #[.slice none 0 0, .int .i64 0] 75))).below (below_alloc' (Below.refl _ _) (.cells #[.pointer none, .pointer (some ⟨t, 0, none⟩), .pointer none, .pointer (some ⟨w1.heap.size, 0, none⟩), .int .i64 M] 36))
  have hy := block_below (alloc_at w1 (.cells #[.slice none 0 0, .int .i64 0] 75)) (below_alloc' (Below.refl _ _) (.cells #[.pointer none, .pointer (some ⟨t, 0, none⟩), .pointer none, .pointer (some ⟨w1.heap.size, 0, none⟩), .int .i64 M] 36))
  have hz : ((w1.alloc (.cells #[.slice none 0 0, .int .i64 0] 75)).alloc (.cells #[.pointer none, .pointer (some ⟨t, 0, none⟩), .pointer none, .pointer (some ⟨w1.heap.size, 0, none⟩), .int .i64 M] 36)).heap[w1.heap.size + 1]? = some (Wb (w1.heap.size + 1) t w1.heap.size M (.pointer none) (.pointer none)) := alloc_is (by simp) _
  have htl := hT.lt.1
  generalize World.alloc _ (.cells #[.pointer none, .pointer (some ⟨t, 0, none⟩), .pointer none, .pointer (some ⟨w1.heap.size, 0, none⟩), .int .i64 M] 36) = w2 at hb2 hT2 hy hz ⊢
  have hs1 := hb1.size
  have hzl := (Array.getElem?_eq_some_iff.1 hz).1
  have hf : ∀ w6, Rw (w1.heap.size + 1) t w1.heap.size M w2.drew w6 → (∃ c0 c2, w6.heap[w1.heap.size + 1]? = some (Wb (w1.heap.size + 1) t w1.heap.size M c0 c2)) ∧ TapeAt w6 t (.slice none 0 0) [] 0 0 ∧ w6.heap[w1.heap.size]? = some (.cells #[.slice none 0 0, .int .i64 0] 75 (0, 0)) ∧ Fine w6 ∧ w2.heap.size ≤ w6.heap.size := fun w6 hr => by
    have hm : Mod (fun g => g = w1.heap.size + 1) w2 w6 := (Mod.of_below (Below.refl w2.heap.size w2).drew).trans hr.1
    refine ⟨hr.2 _ _ hz, hT2.mod hm (by omega) (fun g hg => by cases hg), hm.block' hy (by omega), (HW.out.below hb2).mod hm (fun g hg => by have := HW.out.low; omega), hm.size⟩
  have HF := Lib.hid hf
  have HS := Lib.hid (And.intro hb2 (And.intro ht (And.intro htl (And.intro hs1 hzl))))
  clear hf hb2 hT2 hy hz htl ht hT hb1 hs1 hzl
  obtain ⟨W, hW⟩ : ∃ W, w1.heap.size + 1 = W := ⟨_, rfl⟩
  obtain ⟨y, hy⟩ : ∃ y, w1.heap.size = y := ⟨_, rfl⟩
  rw [hW, hy] at HF HS
  rw [hW, hy]
  have HWY := Lib.hid (show W = y + 1 by omega)
  clear hW hy
  refine' Se.wp_region_pass (fun w w' => Below w.heap.size w w') (Rw W t y M) 20 (by kernel_rfl) (by kernel_rfl) (by kernel_rfl) (by kernel_rfl) (by kernel_rfl) (by kernel_rfl)
    (fun w => Rw.refl w) (fun h k => Rw.trans h k) [] [] (by simp) (by simp) (by simp) (fun vals => ?_)
  rotate_left
  simp only [List.take_succ_cons, List.take_zero, List.drop_succ_cons, List.drop_zero]
  iterate 6 (apply Se.pas_x (fun _ _ h => Rw.of_below h) rfl; (focus rfl); (focus (intro w6 hR hD hP K hK; replace hK := Lib.hid hK; skip; clear hR hD hP; go_simp; exact hK.out _ (Below.refl _ _))); simp only [Act.put, List.setIfInBounds_toArray, List.set_cons_zero, List.set_cons_succ, Nat.reduceAdd, List.cons_append, List.nil_append])
  (apply Se.pas_x (fun _ _ h => Rw.of_below h) rfl; (focus rfl); (focus (intro w6 hR hD hP K hK; replace hK := Lib.hid hK; obtain ⟨c0, c2, hz⟩ := (HF.out w6 hR).1; obtain ⟨e0, e1, e2, e3, e4⟩ := cells5 hz; clear hz; clear hR hD hP; go_simp; exact hK.out _ (Below.refl _ _))); simp only [Act.put, List.setIfInBounds_toArray, List.set_cons_zero, List.set_cons_succ, Nat.reduceAdd, List.cons_append, List.nil_append])
  (apply Se.pas_r (NewS w2.heap.size t M) (fun _ _ h => Rw.of_below h) rfl (fun v w1 w2 h k => h.below k); (focus rfl); (focus (intro w6 hR hD hP K hK; replace hK := Lib.hid hK; have HX := Lib.hid (HF.out w6 hR); clear hD hP hR; go_simp; refine (shardNew_any (fun g => g = t) w6 1 M t (.slice none 0 0) [] [] 0 (fun g hg => hg ▸ HX.out.2.1.lt.1) rfl HX.out.2.1 ⟨[], rfl, .nil⟩ (Nat.le_refl _) (Nat.zero_le _) (fun r hr => by cases hr) ⟨HX.out.2.2.2.1.low, (by have := HW.out.low; have := HS.out.2.1; omega), fun g hg => by cases hg⟩ (fun w7 hb => all_none w7 t 0 (HX.out.2.1.below hb))).mono ?_; rintro e w7 ⟨s, l, a, b, m, rfl, hh, hS, hb⟩; exact hK.out _ _ hb ⟨s, l, a, b, m, rfl, by have := HX.out.2.2.2.2; omega, hS⟩)); simp only [Act.put, List.setIfInBounds_toArray, List.set_cons_zero, List.set_cons_succ, Nat.reduceAdd, List.cons_append, List.nil_append])
  iterate 4 (apply Se.pas_x (fun _ _ h => Rw.of_below h) rfl; (focus rfl); (focus (intro w6 hR hD hP K hK; replace hK := Lib.hid hK; skip; clear hR hD hP; go_simp; exact hK.out _ (Below.refl _ _))); simp only [Act.put, List.setIfInBounds_toArray, List.set_cons_zero, List.set_cons_succ, Nat.reduceAdd, List.cons_append, List.nil_append])
  (apply Se.pas_x (fun _ _ h => Rw.of_below h) rfl; (focus rfl); (focus (intro w6 hR hD hP K hK; replace hK := Lib.hid hK; obtain ⟨c0, c2, hz⟩ := (HF.out w6 hR).1; obtain ⟨e0, e1, e2, e3, e4⟩ := cells5 hz; clear hz; clear hR hD hP; go_simp; exact hK.out _ (Below.refl _ _))); simp only [Act.put, List.setIfInBounds_toArray, List.set_cons_zero, List.set_cons_succ, Nat.reduceAdd, List.cons_append, List.nil_append])
  (apply Se.pas_r (NewX w2.heap.size y M) (fun _ _ h => Rw.of_below h) rfl (fun v w1 w2 h k => h.below k); (focus rfl); (focus (intro w6 hR hD hP K hK; replace hK := Lib.hid hK; have HX := Lib.hid (HF.out w6 hR); clear hD hP hR; go_simp; refine (rshardNew_none w6 1 M y 0 HX.out.2.2.1).mono ?_; rintro e w7 ⟨x, lb, rfl, h1, h2, h3, h4, hb⟩; exact hK.out _ _ hb ⟨x, lb, rfl, by have := HX.out.2.2.2.2; omega, h3, h4⟩)); simp only [Act.put, List.setIfInBounds_toArray, List.set_cons_zero, List.set_cons_succ, Nat.reduceAdd, List.cons_append, List.nil_append])
  iterate 2 (apply Se.pas_x (fun _ _ h => Rw.of_below h) rfl; (focus rfl); (focus (intro w6 hR hD hP K hK; replace hK := Lib.hid hK; skip; clear hR hD hP; go_simp; exact hK.out _ (Below.refl _ _))); simp only [Act.put, List.setIfInBounds_toArray, List.set_cons_zero, List.set_cons_succ, Nat.reduceAdd, List.cons_append, List.nil_append])
  (apply Se.pas_s (Rw0 W t y M) (fun v w' => ∃ c0 c2, NewS w2.heap.size t M c0 w' ∧ w'.heap[W]? = some (Wb W t y M c0 c2)) (fun _ _ h => h.rw) rfl (fun v w1 w2 h k => by obtain ⟨c0, c2, h1, h2⟩ := h; exact ⟨c0, c2, h1.below k, block_below h2 k⟩); (focus rfl); (focus (intro w6 hR hD hP K hK; replace hK := Lib.hid hK; have h7 : NewS w2.heap.size t M (vals 7) w6 := hD 7 (by kernel_rfl); obtain ⟨s, l, a, b, m, ev, hh, hS⟩ := h7; obtain ⟨c0, c2, hz⟩ := (HF.out w6 hR).1; have e0 := cell_of_block hz 0 _ rfl; have kf := free_of_block hz; have HX := Lib.hid (And.intro hh (And.intro hS hz)); simp only [ev] at hK ⊢; clear hD hP hR hh hS hz ev; go_simp; refine hK.out undef _ (Rw0.set HX.out.2.2 _) ⟨_, c2, NewS.box ⟨s, l, a, b, m, rfl, HX.out.1, HX.out.2.1⟩ ⟨c0, c2, HX.out.2.2⟩ (Rw0.set HX.out.2.2 _).1, setAt HX.out.2.2 rfl⟩)); simp only [Act.put, List.setIfInBounds_toArray, List.set_cons_zero, List.set_cons_succ, Nat.reduceAdd, List.cons_append, List.nil_append])
  iterate 2 (apply Se.pas_x (fun _ _ h => Rw.of_below h) rfl; (focus rfl); (focus (intro w6 hR hD hP K hK; replace hK := Lib.hid hK; skip; clear hR hD hP; go_simp; exact hK.out _ (Below.refl _ _))); simp only [Act.put, List.setIfInBounds_toArray, List.set_cons_zero, List.set_cons_succ, Nat.reduceAdd, List.cons_append, List.nil_append])
  (apply Se.pas_s (Rw2 W t y M) (fun v w' => ∃ c0 c2, NewX w2.heap.size y M c2 w' ∧ w'.heap[W]? = some (Wb W t y M c0 c2)) (fun _ _ h => h.rw) rfl (fun v w1 w2 h k => by obtain ⟨c0, c2, h1, h2⟩ := h; exact ⟨c0, c2, h1.below k, block_below h2 k⟩); (focus rfl); (focus (intro w6 hR hD hP K hK; replace hK := Lib.hid hK; have h7 : NewX w2.heap.size y M (vals 13) w6 := hD 13 (by kernel_rfl); obtain ⟨x, lb, ev, hh, hS⟩ := h7; obtain ⟨c0, c2, hz⟩ := (HF.out w6 hR).1; have e2 := cell_of_block hz 2 _ rfl; have kf := free_of_block hz; have HX := Lib.hid (And.intro hh (And.intro hS hz)); simp only [ev] at hK ⊢; clear hD hP hR hh hS hz ev; go_simp; refine hK.out undef _ (Rw2.set HX.out.2.2 _) ⟨c0, _, NewX.box ⟨x, lb, rfl, HX.out.1, HX.out.2.1⟩ HS.out.2.2.2.2 (Rw2.set HX.out.2.2 _).1, setAt HX.out.2.2 rfl⟩)); simp only [Act.put, List.setIfInBounds_toArray, List.set_cons_zero, List.set_cons_succ, Nat.reduceAdd, List.cons_append, List.nil_append])
  refine Se.pas_ends ?_ ?_ fun w5 hR hp _ => ?_
  · simp only [Se.AllK, true_and, and_true, true_or, or_true, Nat.reduceAdd]
    refine ⟨⟨.inr (.inr fun v w w' hr k h => h.box (HF.out w hr).1 k.1), .inr (.inr fun v w w' hr k h => h.box HS.out.2.2.2.2 k.1), .inr (.inr fun v w w' hr k h => ?_)⟩, ⟨.inr (.inr fun v w w' hr k h => h.box (HF.out w hr).1 k.1), .inr (.inr fun v w w' hr k h => h.box HS.out.2.2.2.2 k.1), .inr (.inr fun v w w' hr k h => ?_)⟩⟩
    · obtain ⟨c0, c2, h1, h2⟩ := h
      obtain ⟨c0', h3⟩ := k.2 _ _ h2
      exact ⟨c0', c2, h1.box HS.out.2.2.2.2 k.1, h3⟩
    · obtain ⟨c0, c2, h1, h2⟩ := h
      obtain ⟨c2', h3⟩ := k.2 _ _ h2
      exact ⟨c0, c2', h1.box ⟨_, _, h2⟩ k.1, h3⟩
  · simp only [Se.AllK, true_and, and_true, Nat.reduceAdd]
    simp
  obtain ⟨c0, c2, h1, h2⟩ : ∃ c0 c2, NewS w2.heap.size t M c0 w5 ∧ w5.heap[W]? = some (Wb W t y M c0 c2) := hp 16 (by simp)
  obtain ⟨d0, d2, h3, h4⟩ : ∃ c0 c2, NewX w2.heap.size y M c2 w5 ∧ w5.heap[W]? = some (Wb W t y M c0 c2) := hp 19 (by simp)
  obtain ⟨s, l, a, b, m, rfl, hh, hS⟩ := h1
  obtain ⟨x, lb, rfl, hx, hlb, hxb⟩ := h3
  rw [h2] at h4
  injection h4 with h4
  injection h4 with h4
  simp only [Array.mk.injEq, List.cons.injEq, and_true, true_and] at h4
  obtain ⟨rfl, rfl⟩ := h4
  have hb5 : Below w.heap.size w w5 := by
    have := HS.out.2.2.2.1
    exact (Mod.then (S := fun _ => False) (Mod.of_below HS.out.1) ((Mod.of_below (Below.refl w2.heap.size w2).drew).trans hR.1) fun g hg => .inr (by have := HWY.out; omega)).below fun g hg => hg.elim
  have HE := Lib.hid (And.intro h2 (And.intro hS (And.intro (HF.out w5 hR) (And.intro hlb (And.intro hxb hb5)))))
  obtain ⟨e0, e1, e2, e3, e4⟩ := cells5 h2
  clear h2 hS hlb hxb hb5 hp hR HF
  go_wp2_with fail
  refine wp_loop_rounds 1 ?_
  rw [rounds_succ]
  go_wp2
  go_ret
  exact ⟨W, s, l, a, b, m, t, x, y, lb, rfl, ⟨HE.out.1, HE.out.2.1, HE.out.2.2.1.2.2.2.1⟩, by have := HS.out.1.size; have := HS.out.2.1; omega, HE.out.2.2.1.2.2.1, HE.out.2.2.2.1, HE.out.2.2.2.2.1, HE.out.2.2.2.2.2⟩
end Go.Proofs.YtofofjfmhaggmaaGreatDoor
/-! The node and the gang of chapter 10's own examples, plain. -/
set_option linter.unusedVariables false
set_option linter.unusedSimpArgs false
namespace Go.Proofs.YtofofjfmhaggmaaGreatDoor
open Go.RowKit

/-- The example's node, of so much. -/
def ndN (cpu : Nat) : NodeL := { noNodeL with name := [110], cpu := cpu }
def pdP (cpu : Nat) : PodL := ⟨[112], 1, cpu, 0, [], [], false⟩
def holdM (g : Int) (cpu : Nat) : MsgL := ⟨1, 0, 1, g, [pdP cpu], [], false⟩
def h0N (M : Int) (cpu : Nat) : ShL := (ShL.bare 1 M [] 0).node (ndN cpu)
set_option maxRecDepth 100000
theorem k_put : (ShL.bare 1 0 [] 0).led.errPut (ndN 0) = 0 := by kernel_rfl
theorem k_get : ((h0N 0 0).get (holdM 5 0)).2 = [⟨2, 1, 0, 5, [], [], true⟩] := by kernel_rfl
theorem k_st : stN (((h0N 0 0).get (holdM 5 0)).1.st 5) = 1 := by kernel_rfl
theorem k_pl : (((h0N 0 0).get (holdM 5 0)).1.led.get 5).length = 1 := by kernel_rfl
theorem k_none : stN ((ShL.bare 1 0 [] 0).st 5) = 0 := by kernel_rfl
/-- A row of one pod. -/
theorem pods_one {Q : Nat → Prop} {w : World} {b : Nat} {p : PodL} (hp : p.picks = [] ∧ p.bears = []) (hb : w.heap[b]? = some (.cells #[.string (str p.name), .int .i64 p.shard, .int .i64 p.cpu, .int .i64 p.mem, .slice none 0 0, .slice none 0 0, .bool p.alone] 62 (0, 0))) (hQ : ¬ Q b) : PodsQ Q w (.slice (some ⟨b, 0, none⟩) 1 1) [p] :=
  ⟨fun _ => [.string (str p.name), .int .i64 p.shard, .int .i64 p.cpu, .int .i64 p.mem, .slice none 0 0, .slice none 0 0, .bool p.alone], ⟨⟨rfl, .inr ⟨b, 1, _, rfl, Nat.zero_le _, hb, Nat.le_refl _, by decide, rfl, rfl⟩⟩, fun g hg hq => hQ (by injection hg with hg; exact (show b = g from hg) ▸ hq)⟩,
    fun i hi => by
      obtain rfl : i = 0 := by simpa using hi
      refine ⟨.slice none 0 0, .slice none 0 0, rfl, ?_, ?_⟩
      · show StrsQ Q w _ p.picks
        rw [hp.1]; exact ⟨World.ownsRow_nil _ _ _ _, fun g hg => by cases hg⟩
      · show StrsQ Q w _ p.bears
        rw [hp.2]; exact ⟨World.ownsRow_nil _ _ _ _, fun g hg => by cases hg⟩⟩
theorem zrow {Q : Nat → Prop} {w : World} {e : TypeId} {size : Nat} : Rq Q w e size (.slice none 0 0) 0 [] := ⟨World.ownsRow_nil _ _ _ _, fun g hg => by cases hg⟩
theorem ndN_q (Q : Nat → Prop) (w : World) (c : Nat) : NodeQ Q w (.agg #[.string ⟨#[110]⟩, .int .i64 c, .int .i64 0, .slice none 0 0, .slice none 0 0, .bool false]) (ndN c) := ⟨_, _, rfl, zrow, zrow⟩
theorem ndN_few {c : Nat} (h : c ≤ 1099511627776) : (ndN c).few := ⟨by simp [ndN], ⟨by simp [ndN, noNodeL], by simp [ndN, noNodeL]⟩, ⟨by simp [ndN, noNodeL], by simp [ndN, noNodeL]⟩, by simp [ndN]; omega, by simp [ndN, noNodeL]⟩
theorem podsB_one {p : PodL} (h1 : nameB p.name = true) (h2 : p.cpu ≤ 1099511627776 ∧ p.mem ≤ 1099511627776) (h3 : p.picks = [] ∧ p.bears = []) : PodsB [p] :=
  ⟨⟨Nat.le_refl _, by simp⟩, fun q hq => by rw [List.mem_singleton.1 hq]; exact ⟨h1, h2.1, h2.2, by rw [h3.1]; rfl, by rw [h3.2]; rfl⟩, by simp⟩
theorem holdM_b {g : Int} {c : Nat} (hg : 1 ≤ g ∧ g ≤ 999999) (hc : c ≤ 1099511627776) : MsgB (holdM g c) := ⟨hg, fun _ => podsB_one (by show nameB [112] = true; kernel_rfl) ⟨hc, Nat.zero_le _⟩ ⟨rfl, rfl⟩, fun h => absurd h (by simp [holdM])⟩
theorem holdM_v {Q : Nat → Prop} {w : World} {b : Nat} {g : Int} {c : Nat} (hb : w.heap[b]? = some (.cells #[.string ⟨#[112]⟩, .int .i64 1, .int .i64 c, .int .i64 0, .slice none 0 0, .slice none 0 0, .bool false] 62 (0, 0))) (hQ : ¬ Q b) : MsgV Q w (.agg #[.int .i64 1, .int .i64 0, .int .i64 1, .int .i64 g, .slice (some ⟨b, 0, none⟩) 1 1, .slice none 0 0, .bool false]) (holdM g c) :=
  ⟨_, _, _, _, _, _, rfl, pods_one ⟨rfl, rfl⟩ hb hQ, zrow⟩
theorem h0N_inv (M : Int) (c : Nat) : (h0N M c).inv 0 := (bare_inv 1 M).node _
theorem node_recs (h : ShL) (n : NodeL) : (h.node n).recs.length ≤ h.recs.length + 1 := by
  unfold ShL.node
  split
  · simp [ShL.force, ShL.write, ShL.sync]
  · exact Nat.le_succ _
theorem get_recs (h : ShL) (x : MsgL) : (h.get x).1.recs.length ≤ h.recs.length + 2 := by
  have hc : ∀ (h : ShL) g, (h.commit g).recs.length ≤ h.recs.length + 1 := fun h g => by
    unfold ShL.commit
    split
    · simp [ShL.force, ShL.write, ShL.sync, ShL.set]
    · exact Nat.le_succ _
  have hd : ∀ (h : ShL) g, (h.drop g).recs.length = h.recs.length + 1 := fun h g => by simp [ShL.drop, ShL.fin, ShL.write, ShL.set]
  unfold ShL.get
  split
  · unfold ShL.hold
    split
    · split
      · exact Nat.le_add_right _ _
      · exact Nat.le_add_right _ _
    all_goals exact Nat.le_add_right _ _
  split
  · unfold ShL.prepare
    split
    · exact Nat.le_add_right _ _
    · exact Nat.le_add_right _ _
    · simp [ShL.force, ShL.write, ShL.sync, ShL.set]
    · exact Nat.le_add_right _ _
  split
  · have e : (if x.yes then h.commit x.gang else h).recs.length ≤ h.recs.length + 1 := by split; exact hc _ _; exact Nat.le_succ _
    unfold ShL.decide
    simp only
    generalize (if x.yes then h.commit x.gang else h) = h1 at e
    split
    · simp only; omega
    · simp only; omega
    · split
      · simp only; omega
      · simp only [hd]; omega
    · split
      · simp only; omega
      · simp only [hd]; omega
    · simp only; omega
  split
  · unfold ShL.ask
    split
    · simp only; omega
    · simp only; omega
    · simp only; omega
    · simp only; omega
    · show (h.drop x.gang).sync.recs.length ≤ _
      have : (h.drop x.gang).sync.recs = (h.drop x.gang).recs := rfl
      rw [this, hd]; omega
  split
  · unfold ShL.told
    split
    · split
      · have := hc h x.gang; simp only; omega
      · simp only [hd]; omega
    · simp only; omega
  split
  · have e := hc h x.gang
    unfold ShL.free
    simp only
    generalize h.commit x.gang = h1 at e
    split
    · simp only; omega
    · simp [ShL.force, ShL.write, ShL.sync, ShL.set, ShL.fin]; omega
    · simp only; omega
  · simp only; omega
theorem msgRow_one {base : Nat} {w : World} {v : Value} {m : MsgL} (h : MsgRow base w v [m]) : ∃ b c, v = .slice (some ⟨b, 0, none⟩) 1 c ∧ w.cell? ⟨b, 0, none⟩ = some (.int .i64 m.kind) ∧ w.cell? ⟨b, 1, none⟩ = some (.int .i64 m.src) ∧ w.cell? ⟨b, 2, none⟩ = some (.int .i64 m.dst) ∧ w.cell? ⟨b, 3, none⟩ = some (.int .i64 m.gang) ∧ w.cell? ⟨b, 6, none⟩ = some (.bool m.yes) := by
  rcases own_forms h with ⟨_, h0, _⟩ | ⟨g, cap, rfl, _, _⟩
  · cases h0
  · exact ⟨g, cap, rfl, h.cellAt 0 (by simp), h.cellAt 1 (by simp), h.cellAt 2 (by simp), h.cellAt 3 (by simp), h.cellAt 6 (by simp)⟩
set_option maxHeartbeats 4000000 in
theorem known_any (w : World) (hw : Fine w) : Calls Tryz.prog 11 #[] w fun e w' => e = .returned (.bool true) ∧ Below w.heap.size w w' := by
  have HW := Lib.hid hw
  clear hw
  go_enter Tryz.func11, Tryz.ntmps11
  go_wp2_with fail
  refine (tapeNew_any w).mono ?_
  rintro e w1 ⟨t, rfl, ht, hT, hb1⟩
  have HT := Lib.hid (And.intro hT (And.intro hb1 ht))
  have HF1 := Lib.hid (HW.out.below hb1)
  clear hT hb1 ht
  go_wp2_with fail
  refine (shardNew_any (fun g => g = t) w1 1 0 t (.slice none 0 0) [] [] 0 (fun g hg => hg ▸ HT.out.1.lt.1) rfl HT.out.1 ⟨[], rfl, .nil⟩ (Nat.le_refl _) (Nat.zero_le _) (fun r hr => by cases hr) ⟨HF1.out.low, (by have := HW.out.low; have := HT.out.2.2; omega), fun g hg => by cases hg⟩ (fun w7 hb => all_none w7 t 0 (HT.out.1.below hb))).mono ?_
  rintro e w2 ⟨s, l, a, b, m, rfl, hh, hS, hb2⟩
  have HS := Lib.hid (And.intro hS (below_call HT.out.2.1 hb2))
  have HF2 := Lib.hid (HF1.out.below hb2)
  have HHH := Lib.hid (And.intro hh (And.intro HT.out.2.2 HT.out.2.1.size))
  clear hS hb2 HT hh
  go_wp2_with fail
  refine (state_any HS.out.1 5).mono ?_
  rintro e w3 ⟨rfl, rfl⟩
  rw [show stN ((ShL.made 1 0 [] 0).st 5) = 0 from k_none]
  go_wp2_with fail
  refine (stnode_any (n := ndN 0) HS.out.1 HF2.out.tabs (fun g hg => HS.out.1.old g (by rcases hg with e | e | e | e <;> simp [e])) LedL.none_ok (Nat.zero_le _) (Nat.zero_le _) (ndN_q _ _ 0) (ndN_few (by decide))).mono ?_
  rintro e w3 ⟨rfl, tv3, hS, hD⟩
  have hS : ShardAt (Q3 (fun g => g = t) a b m) w3 s l a b m t tv3 (h0N 0 0) := hS
  have HS3 := Lib.hid (And.intro hS hD)
  have HF3 := Lib.hid (HF2.out.mod hD.mod HS.out.1.far)
  clear hS hD
  rw [show (ShL.made 1 0 [] 0).led.errPut (ndN 0) = 0 from k_put]
  go_upto_region 7 with fail
  go_wp2_with fail
  have z1 := alloc_at w3 (.cells #[.string ⟨#[112]⟩, .int .i64 1, .int .i64 0, .int .i64 0, .slice none 0 0, .slice none 0 0, .bool false] 62)
  have hb1 : Below w3.heap.size w3 (w3.alloc (.cells #[.string ⟨#[112]⟩, .int .i64 1, .int .i64 0, .int .i64 0, .slice none 0 0, .slice none 0 0, .bool false] 62)) := below_alloc' (Below.refl _ _) _
  generalize World.alloc w3 _ = w4 at z1 hb1 ⊢
  have hQ4 : ∀ g, Q3 (fun g => g = t) a b m g → g < w3.heap.size := fun g hg => HS3.out.1.old g (by rcases hg with e | e | e | e <;> simp [e])
  have HQ4 := Lib.hid hQ4
  have HB4 := Lib.hid (And.intro hb1 z1)
  clear hQ4 hb1 z1
  refine (get_any (x := holdM 5 0) (HS3.out.1.below HB4.out.1) (HF3.out.below HB4.out.1).tabs (HF3.out.below HB4.out.1).tops (fun g hg => Nat.lt_of_lt_of_le (HQ4.out g hg) HB4.out.1.size) (holdM_v HB4.out.2 (fun hq => Nat.lt_irrefl _ (HQ4.out _ hq))) 5 rfl ((h0N_inv 0 0).getOk (holdM_b (by decide) (by decide)) (by decide) (Nat.le_of_ble_eq_true (by kernel_rfl)))).mono ?_
  rintro e w5 ⟨⟨v, rfl, hv⟩, tv5, hS, hD⟩
  rw [k_get] at hv
  obtain ⟨b0, c0, rfl, k0, k1, -, -, k6⟩ := msgRow_one hv
  have HS5 := Lib.hid (And.intro hS ((HS3.out.2.trans (Did.of_below HB4.out.1)).trans hD))
  have HSZ5 := Lib.hid hD.mod.size
  clear hv hS hD
  go_wp2_with fail
  refine (state_any HS5.out.1 5).mono ?_
  rintro e w6 ⟨rfl, rfl⟩
  rw [k_st]
  go_wp2_with fail
  refine (splaces_any HS5.out.1 (((h0N_inv 0 0).get (holdM_b (by decide) (by decide))).ok) (fun g hg => Nat.lt_of_lt_of_le (HQ4.out g hg) (Nat.le_trans HB4.out.1.size HSZ5.out)) 5).mono ?_
  rintro e w6 ⟨pv, rfl, hp, hb6⟩
  obtain ⟨pa, pc, rfl⟩ := placesQ_slice hp
  have HB6 := Lib.hid hb6
  rw [k_pl]
  clear hp hb6
  go_wp2
  go_ret
  refine ⟨rfl, ?_⟩
  have h1 := HS5.out.2.mod
  exact ((Mod.then (S := fun _ => False) (Mod.of_below HS.out.2) h1 fun g hg => .inr (by have := HHH.out; rcases hg with e | e | e | e | e <;> first | (subst e; omega) | cases e)).trans (Mod.of_below HB6.out)).below fun g hg => hg.elim
end Go.Proofs.YtofofjfmhaggmaaGreatDoor
