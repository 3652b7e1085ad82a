/- A decision, by a shard (printed by wip/play/decide.py). -/
import Derived.Test.YtofofjfmhaggmaaGreatDoorWm
set_option linter.unusedVariables false
set_option linter.unusedSimpArgs false
namespace Go.Proofs.YtofofjfmhaggmaaGreatDoor
open Go.RowKit

theorem ShardAt.old {Q : Nat → Prop} {w : World} {s l a b m t : Nat} {tv : Value} {h : ShL} (H : ShardAt Q w s l a b m t tv h) : ∀ g, (g = a ∨ g = b ∨ g = m ∨ g = t ∨ tv.ownBlock = some g) → g < w.heap.size := fun g hg => by
  obtain ⟨cs, h4, _⟩ := H.tape
  rcases hg with rfl | rfl | rfl | rfl | e
  · exact H.led.lt.2.1
  · exact H.led.lt.2.2
  · exact H.gangs.lt
  · exact h4.lt.1
  · exact h4.lt.2 g e
set_option maxRecDepth 100000 in
set_option maxHeartbeats 4000000 in
theorem decide_true {Q : Nat → Prop} {w : World} {s l a b m t : Nat} {tv : Value} {h : ShL} (H : ShardAt Q w s l a b m t tv h) (ht : Tabs w) (x : MsgL) (pa ea : Option Addr) (pn pc en ec : Nat) (g : Nat) (hxg : x.gang = g) (hy : x.yes = true) (hg : 1 ≤ g ∧ g ≤ 999999) (hr : h.recs.length ≤ 999) :
    Calls Tryz.prog 37 #[.pointer (some ⟨s, 0, none⟩), .agg #[.int .i64 x.kind, .int .i64 x.src, .int .i64 x.dst, .int .i64 g, .slice pa pn pc, .slice ea en ec, .bool true]] w fun e w' => e = .returned (.bool (h.decide x).2) ∧ ShPost Q w s l a b m t tv (h.decide x).1 w' := by
  have HH := Lib.hid (And.intro H ht)
  have hD0 : h.decide x = match (h.commit g).st g with
    | some .bound => (h.commit g, true)
    | some .freed => (h.commit g, true)
    | some (.held _) => (h.commit g, false)
    | some (.prepared _ _) => (h.commit g, false)
    | _ => (h.commit g, false) := by
    unfold ShL.decide
    rw [hxg, hy]
    rfl
  have HD0 := Lib.hid hD0
  clear H ht hD0 hxg hy
  go_enter Tryz.func37, Tryz.ntmps37
  go_wp2_with fail
  have z1 := alloc_at w (.cells #[.int .i64 x.kind, .int .i64 x.src, .int .i64 x.dst, .int .i64 g, .slice pa pn pc, .slice ea en ec, .bool true] 28)
  have hb1 : Below w.heap.size w (w.alloc (.cells #[.int .i64 x.kind, .int .i64 x.src, .int .i64 x.dst, .int .i64 g, .slice pa pn pc, .slice ea en ec, .bool true] 28)) := below_alloc' (Below.refl _ _) _
  generalize World.alloc w _ = w1 at z1 hb1 ⊢
  have H1 := HH.out.1.below hb1
  refine (commit_any H1 (HH.out.2.below hb1) g hg (by omega)).mono ?_
  rintro e w2 ⟨rfl, tv1, hS, hD⟩
  have hlt := HH.out.1.old
  have z2 := hD.mod.block' z1 fun e => Nat.lt_irrefl _ (hlt _ e)
  have ht2 := hD.tabs H1 (HH.out.2.below hb1)
  have HS := Lib.hid (And.intro hS (And.intro ((Did.of_below hb1).trans hD) (And.intro ht2 z2)))
  have hr2 := commit_recs h g
  have HD := HD0
  generalize h.commit g = h1 at hr2 HS HD
  clear H1 hS hD hlt z1 z2 ht2 hb1
  obtain ⟨v, hl, hv⟩ := HS.out.1.look g
  have hta := ta_freed hv
  have htb := ta_bound hv
  obtain ⟨y1, _, hth⟩ := ta_held hv
  obtain ⟨x0, y0, ⟨xa, xn, xc, rfl⟩, _, htp⟩ := ta_prep hv
  have hDD := HD.out
  obtain ⟨so, hso⟩ : ∃ so, h1.st g = so := ⟨_, rfl⟩
  rw [hso] at hta htb hth htp hDD
  have HF0 := Lib.hid hDD
  have hf : ∀ w6, Below w2.heap.size w2.drew w6 → w6.heap[w.heap.size]? = some (.cells #[.int .i64 x.kind, .int .i64 x.src, .int .i64 x.dst, .int .i64 g, .slice pa pn pc, .slice ea en ec, .bool true] 28 (0, 0)) ∧ Below w2.heap.size w2 w6 ∧ (Instr.lookup 92 (.map (some m)) (.int .i64 g) false).run Tryz.prog w6 = .ok v w6 := fun w6 hb => by
    have hb' : Below w2.heap.size w2 w6 := (Below.refl w2.heap.size w2).drew.trans hb
    exact ⟨block_below HS.out.2.2.2 hb', hb', hl w6 (hb'.block m HS.out.1.gangs.lt)⟩
  have HF := Lib.hid hf
  have HW := Lib.hid (show w.heap.size ≤ w2.heap.size from HS.out.2.1.mod.size)
  clear hf hl hv hso hDD HD
  go_upto_region 3 with fail
  refine' Par.wp_region_pars (fun w w' => Below w.heap.size w w') 7 (by kernel_rfl) (by kernel_rfl) (by kernel_rfl) (by kernel_rfl) (by kernel_rfl) (by kernel_rfl)
    (fun w => Below.refl _ w) (fun h k => below_call h k) (fun vals => ?_)
  rotate_left
  simp only [List.take_succ_cons, List.take_zero, List.drop_succ_cons, List.drop_zero]
  iterate 3 (apply Par.par_x rfl; (focus (intro w6 hR hD K hK; replace hK := Lib.hid hK; skip; clear hR hD; go_simp; exact hK.out _ (Below.refl _ _))); simp only [Act.put, List.setIfInBounds_toArray, List.set_cons_zero, List.set_cons_succ, Nat.reduceAdd, List.cons_append, List.nil_append])
  (apply Par.par_x rfl; (focus (intro w6 hR hD K hK; replace hK := Lib.hid hK; have e0 := cell_of_block (block_below HS.out.1.z (HF.out w6 hR).2.1) 4 (.map (some m)) rfl; clear hR hD; go_simp; exact hK.out _ (Below.refl _ _))); simp only [Act.put, List.setIfInBounds_toArray, List.set_cons_zero, List.set_cons_succ, Nat.reduceAdd, List.cons_append, List.nil_append])
  (apply Par.par_x rfl; (focus (intro w6 hR hD K hK; replace hK := Lib.hid hK; skip; clear hR hD; go_simp; exact hK.out _ (Below.refl _ _))); simp only [Act.put, List.setIfInBounds_toArray, List.set_cons_zero, List.set_cons_succ, Nat.reduceAdd, List.cons_append, List.nil_append])
  (apply Par.par_x rfl; (focus (intro w6 hR hD K hK; replace hK := Lib.hid hK; obtain ⟨e0, e1, e2, e3, e4, e5, e6⟩ := cells7 (HF.out w6 hR).1; clear hR hD; go_simp; exact hK.out _ (Below.refl _ _))); simp only [Act.put, List.setIfInBounds_toArray, List.set_cons_zero, List.set_cons_succ, Nat.reduceAdd, List.cons_append, List.nil_append])
  (apply Par.par_x rfl; (focus (intro w6 hR hD K hK; replace hK := Lib.hid hK; have e0 := (HF.out w6 hR).2.2; clear hR hD; go_simp; exact hK.out _ (Below.refl _ _))); simp only [Act.put, List.setIfInBounds_toArray, List.set_cons_zero, List.set_cons_succ, Nat.reduceAdd, List.cons_append, List.nil_append])
  refine Par.par_end fun w3 hR hp => ?_
  have HF3 := Lib.hid (HF.out w3 hR)
  have HS3 := Lib.hid (And.intro (HS.out.1.below HF3.out.2.1) (And.intro (HS.out.2.1.trans (.of_below HF3.out.2.1)) (HS.out.2.2.1.below HF3.out.2.1)))
  obtain ⟨e0, e1, e2, e3, e4, e5, e6⟩ := cells7 HF3.out.1
  clear hp hR HF
  rcases so with _ | st
  case none =>
    simp only [isBound, isFreed, isHeld, isPrep] at hta htb hth htp
    go_wp2
    go_ret
    rw [HF0.out]
    exact ⟨rfl, tv1, HS3.out.1, HS3.out.2.1⟩
  case some =>
    rcases st with n | ⟨ps, n⟩ | _ | _ | _
    all_goals simp only [isBound, isFreed, isHeld, isPrep] at hta htb hth htp
    case held =>
      go_wp2
      go_ret
      rw [HF0.out]
      exact ⟨rfl, tv1, HS3.out.1, HS3.out.2.1⟩
    case prepared =>
      go_wp2
      go_ret
      rw [HF0.out]
      exact ⟨rfl, tv1, HS3.out.1, HS3.out.2.1⟩
    case bound =>
      go_wp2
      go_ret
      rw [HF0.out]
      exact ⟨rfl, tv1, HS3.out.1, HS3.out.2.1⟩
    case aborted =>
      go_wp2
      go_ret
      rw [HF0.out]
      exact ⟨rfl, tv1, HS3.out.1, HS3.out.2.1⟩
    case freed =>
      go_wp2
      go_ret
      rw [HF0.out]
      exact ⟨rfl, tv1, HS3.out.1, HS3.out.2.1⟩
set_option maxRecDepth 100000 in
set_option maxHeartbeats 4000000 in
theorem decide_false {Q : Nat → Prop} {w : World} {s l a b m t : Nat} {tv : Value} {h : ShL} (H : ShardAt Q w s l a b m t tv h) (ht : Tabs w) (x : MsgL) (pa ea : Option Addr) (pn pc en ec : Nat) (g : Nat) (hxg : x.gang = g) (hy : x.yes = false) (hg : 1 ≤ g ∧ g ≤ 999999) (hr : h.recs.length ≤ 999) :
    Calls Tryz.prog 37 #[.pointer (some ⟨s, 0, none⟩), .agg #[.int .i64 x.kind, .int .i64 x.src, .int .i64 x.dst, .int .i64 g, .slice pa pn pc, .slice ea en ec, .bool false]] w fun e w' => e = .returned (.bool (h.decide x).2) ∧ ShPost Q w s l a b m t tv (h.decide x).1 w' := by
  have HH := Lib.hid (And.intro H ht)
  have hD0 : h.decide x = match h.st g with
    | some .bound => (h, false)
    | some .freed => (h, false)
    | some (.held _) => (h.drop g, true)
    | some (.prepared _ _) => (h.drop g, true)
    | _ => (h, true) := by
    unfold ShL.decide
    rw [hxg, hy]
    rfl
  have HD0 := Lib.hid hD0
  clear H ht hD0 hxg hy
  go_enter Tryz.func37, Tryz.ntmps37
  go_upto_region 3 with fail
  have z1 := alloc_at w (.cells #[.int .i64 x.kind, .int .i64 x.src, .int .i64 x.dst, .int .i64 g, .slice pa pn pc, .slice ea en ec, .bool false] 28)
  have hb1 : Below w.heap.size w (w.alloc (.cells #[.int .i64 x.kind, .int .i64 x.src, .int .i64 x.dst, .int .i64 g, .slice pa pn pc, .slice ea en ec, .bool false] 28)) := below_alloc' (Below.refl _ _) _
  generalize World.alloc w _ = w1 at z1 hb1 ⊢
  have HS := Lib.hid (And.intro (HH.out.1.below hb1) (And.intro (Did.of_below (a := a) (b := b) (m := m) (t := t) (tv := tv) hb1) (And.intro (HH.out.2.below hb1) z1)))
  have HD := HD0
  have hr2 : h.recs.length ≤ h.recs.length + 1 := Nat.le_succ _
  clear z1 hb1
  obtain ⟨v, hl, hv⟩ := HS.out.1.look g
  have hta := ta_freed hv
  have htb := ta_bound hv
  obtain ⟨y1, _, hth⟩ := ta_held hv
  obtain ⟨x0, y0, ⟨xa, xn, xc, rfl⟩, _, htp⟩ := ta_prep hv
  have hDD := HD.out
  obtain ⟨so, hso⟩ : ∃ so, h.st g = so := ⟨_, rfl⟩
  rw [hso] at hta htb hth htp hDD
  have HF0 := Lib.hid hDD
  have hf : ∀ w6, Below w1.heap.size w1.drew w6 → w6.heap[w.heap.size]? = some (.cells #[.int .i64 x.kind, .int .i64 x.src, .int .i64 x.dst, .int .i64 g, .slice pa pn pc, .slice ea en ec, .bool false] 28 (0, 0)) ∧ Below w1.heap.size w1 w6 ∧ (Instr.lookup 92 (.map (some m)) (.int .i64 g) false).run Tryz.prog w6 = .ok v w6 := fun w6 hb => by
    have hb' : Below w1.heap.size w1 w6 := (Below.refl w1.heap.size w1).drew.trans hb
    exact ⟨block_below HS.out.2.2.2 hb', hb', hl w6 (hb'.block m HS.out.1.gangs.lt)⟩
  have HF := Lib.hid hf
  have HW := Lib.hid (show w.heap.size ≤ w1.heap.size from HS.out.2.1.mod.size)
  clear hf hl hv hso hDD HD
  refine' Par.wp_region_pars (fun w w' => Below w.heap.size w w') 7 (by kernel_rfl) (by kernel_rfl) (by kernel_rfl) (by kernel_rfl) (by kernel_rfl) (by kernel_rfl)
    (fun w => Below.refl _ w) (fun h k => below_call h k) (fun vals => ?_)
  rotate_left
  simp only [List.take_succ_cons, List.take_zero, List.drop_succ_cons, List.drop_zero]
  iterate 3 (apply Par.par_x rfl; (focus (intro w6 hR hD K hK; replace hK := Lib.hid hK; skip; clear hR hD; go_simp; exact hK.out _ (Below.refl _ _))); simp only [Act.put, List.setIfInBounds_toArray, List.set_cons_zero, List.set_cons_succ, Nat.reduceAdd, List.cons_append, List.nil_append])
  (apply Par.par_x rfl; (focus (intro w6 hR hD K hK; replace hK := Lib.hid hK; have e0 := cell_of_block (block_below HS.out.1.z (HF.out w6 hR).2.1) 4 (.map (some m)) rfl; clear hR hD; go_simp; exact hK.out _ (Below.refl _ _))); simp only [Act.put, List.setIfInBounds_toArray, List.set_cons_zero, List.set_cons_succ, Nat.reduceAdd, List.cons_append, List.nil_append])
  (apply Par.par_x rfl; (focus (intro w6 hR hD K hK; replace hK := Lib.hid hK; skip; clear hR hD; go_simp; exact hK.out _ (Below.refl _ _))); simp only [Act.put, List.setIfInBounds_toArray, List.set_cons_zero, List.set_cons_succ, Nat.reduceAdd, List.cons_append, List.nil_append])
  (apply Par.par_x rfl; (focus (intro w6 hR hD K hK; replace hK := Lib.hid hK; obtain ⟨e0, e1, e2, e3, e4, e5, e6⟩ := cells7 (HF.out w6 hR).1; clear hR hD; go_simp; exact hK.out _ (Below.refl _ _))); simp only [Act.put, List.setIfInBounds_toArray, List.set_cons_zero, List.set_cons_succ, Nat.reduceAdd, List.cons_append, List.nil_append])
  (apply Par.par_x rfl; (focus (intro w6 hR hD K hK; replace hK := Lib.hid hK; have e0 := (HF.out w6 hR).2.2; clear hR hD; go_simp; exact hK.out _ (Below.refl _ _))); simp only [Act.put, List.setIfInBounds_toArray, List.set_cons_zero, List.set_cons_succ, Nat.reduceAdd, List.cons_append, List.nil_append])
  refine Par.par_end fun w3 hR hp => ?_
  have HF3 := Lib.hid (HF.out w3 hR)
  have HS3 := Lib.hid (And.intro (HS.out.1.below HF3.out.2.1) (And.intro (HS.out.2.1.trans (.of_below HF3.out.2.1)) (HS.out.2.2.1.below HF3.out.2.1)))
  obtain ⟨e0, e1, e2, e3, e4, e5, e6⟩ := cells7 HF3.out.1
  clear hp hR HF
  rcases so with _ | st
  case none =>
    simp only [isBound, isFreed, isHeld, isPrep] at hta htb hth htp
    go_wp2
    go_ret
    rw [HF0.out]
    exact ⟨rfl, tv, HS3.out.1, HS3.out.2.1⟩
  case some =>
    rcases st with n | ⟨ps, n⟩ | _ | _ | _
    all_goals simp only [isBound, isFreed, isHeld, isPrep] at hta htb hth htp
    case held =>
      go_wp2_with fail
      refine (drop_any HS3.out.1 HS3.out.2.2 g hg (by omega)).mono ?_
      rintro e w4 ⟨rfl, tv2, hS, hD⟩
      have HS4 := Lib.hid (And.intro hS (HS3.out.2.1.trans hD))
      have z4 := hD.mod.block' HF3.out.1 fun e => Nat.lt_irrefl _ (HH.out.1.old _ e)
      obtain ⟨q0, q1, q2, q3, q4, q5, q6⟩ := cells7 z4
      clear hS hD z4
      go_wp2
      go_ret
      rw [HF0.out]
      exact ⟨rfl, tv2, HS4.out.1, HS4.out.2⟩
    case prepared =>
      go_wp2_with fail
      refine (drop_any HS3.out.1 HS3.out.2.2 g hg (by omega)).mono ?_
      rintro e w4 ⟨rfl, tv2, hS, hD⟩
      have HS4 := Lib.hid (And.intro hS (HS3.out.2.1.trans hD))
      have z4 := hD.mod.block' HF3.out.1 fun e => Nat.lt_irrefl _ (HH.out.1.old _ e)
      obtain ⟨q0, q1, q2, q3, q4, q5, q6⟩ := cells7 z4
      clear hS hD z4
      go_wp2
      go_ret
      rw [HF0.out]
      exact ⟨rfl, tv2, HS4.out.1, HS4.out.2⟩
    case bound =>
      go_wp2
      go_ret
      rw [HF0.out]
      exact ⟨rfl, tv, HS3.out.1, HS3.out.2.1⟩
    case aborted =>
      go_wp2
      go_ret
      rw [HF0.out]
      exact ⟨rfl, tv, HS3.out.1, HS3.out.2.1⟩
    case freed =>
      go_wp2
      go_ret
      rw [HF0.out]
      exact ⟨rfl, tv, HS3.out.1, HS3.out.2.1⟩
end Go.Proofs.YtofofjfmhaggmaaGreatDoor
