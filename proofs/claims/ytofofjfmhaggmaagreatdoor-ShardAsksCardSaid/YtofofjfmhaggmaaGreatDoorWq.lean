/- A gang prepared by a shard. -/
import Derived.Test.YtofofjfmhaggmaaGreatDoorWp
set_option linter.unusedVariables false
set_option linter.unusedSimpArgs false
namespace Go.Proofs.YtofofjfmhaggmaaGreatDoor
open Go.RowKit

theorem ShardAt.inEx {Q : Nat → Prop} {w : World} {s l a b m t : Nat} {tv : Value} {h : ShL} (H : ShardAt Q w s l a b m t tv h) : ∀ g, g < w.heap.size → (g = a ∨ g = b ∨ g = m ∨ g = t ∨ tv.ownBlock = some g) → Ex Q w g := fun g _ e => by
  obtain ⟨cs, h4, _⟩ := H.tape
  rcases e with rfl | rfl | rfl | rfl | e
  · exact .inl H.led.qa
  · exact .inl H.led.qb
  · exact .inl H.qm
  · exact .inl H.qt
  · exact .inr (own_typed h4.row g e)
theorem good_recP {g : Nat} {ps : List Nat} {ls : List PlaceL} (hg : 1 ≤ g ∧ g ≤ 999999) (hp : peersB ps = true) (hl : placesB ls) : (recP g ps ls).good :=
  ⟨by simp [recP], by simp [recP], by simp [recP], by simp [recP], by simpa [recP] using hg, by simpa [recP] using hp, by simpa [recP] using hl⟩
theorem prepare_cases (h : ShL) (x : MsgL) : h.prepare x = match h.st x.gang with
    | none => (h, false)
    | some .aborted => (h, false)
    | some (.held _) => ((h.force (recP x.gang x.peers (h.led.get x.gang))).set x.gang (.prepared x.peers 0), true)
    | _ => (h, true) := rfl
set_option maxRecDepth 100000 in
set_option maxHeartbeats 4000000 in
theorem prepare_any {Q : Nat → Prop} {w : World} {s l a b m t : Nat} {tv : Value} {h : ShL} (H : ShardAt Q w s l a b m t tv h) (ht : Tabs w) (hQ : ∀ g, Q g → g < w.heap.size) {mv : Value} {x : MsgL} (hm : MsgV Q w mv x) (g : Nat) (hxg : x.gang = g) (hg : 1 ≤ g ∧ g ≤ 999999)
    (hok : h.led.ok) (hr : h.recs.length ≤ 999) (hp : ∀ n, h.st g = some (.held n) → peersB x.peers = true ∧ x.peers.length ≤ 16 ∧ placesB (h.led.get g)) :
    Calls Tryz.prog 36 #[.pointer (some ⟨s, 0, none⟩), mv] w fun e w' => e = .returned (.bool (h.prepare x).2) ∧ ShPost Q w s l a b m t tv (h.prepare x).1 w' := by
  obtain ⟨pa, pn, pc, ea, en, ec, rfl, hpods, hpeers⟩ := hm
  have HH := Lib.hid (And.intro H (And.intro ht hQ))
  have HP := Lib.hid (And.intro hpeers (And.intro hok hp))
  obtain ⟨v, hl, hv⟩ := H.look g
  have hta := ta_aborted hv
  have htn := ta_nil hv
  have htg := ta_guard hv 11
  obtain ⟨y1, _, hth⟩ := ta_held hv
  have hA := prepare_cases h x
  rw [hxg] at hA
  obtain ⟨so, hso⟩ : ∃ so, h.st g = so := ⟨_, rfl⟩
  have HSO := Lib.hid hso
  rw [hso] at hta htn hth hA
  have HA := Lib.hid hA
  rw [hxg]
  clear H ht hQ hv hso hA hxg hpods hpeers hok hp
  go_enter Tryz.func36, Tryz.ntmps36
  go_upto_region 1 with fail
  have z1 := alloc_at w (.cells #[.int .i64 x.kind, .int .i64 x.src, .int .i64 x.dst, .int .i64 g, .slice pa pn pc, .slice ea en ec, .bool x.yes] 28)
  have hb1 : Below w.heap.size w (w.alloc (.cells #[.int .i64 x.kind, .int .i64 x.src, .int .i64 x.dst, .int .i64 g, .slice pa pn pc, .slice ea en ec, .bool x.yes] 28)) := below_alloc' (Below.refl _ _) _
  generalize World.alloc w _ = w1 at z1 hb1 ⊢
  have hf : ∀ w6, Below w1.heap.size w1.drew w6 → w6.heap[w.heap.size]? = some (.cells #[.int .i64 x.kind, .int .i64 x.src, .int .i64 x.dst, .int .i64 g, .slice pa pn pc, .slice ea en ec, .bool x.yes] 28 (0, 0)) ∧ Below w.heap.size w w6 ∧ (Instr.lookup 92 (.map (some m)) (.int .i64 g) false).run Tryz.prog w6 = .ok v w6 := fun w6 hb => by
    have hb' : Below w1.heap.size w1 w6 := (Below.refl w1.heap.size w1).drew.trans hb
    have hw := below_call hb1 hb'
    exact ⟨block_below z1 hb', hw, hl w6 (hw.block m HH.out.1.gangs.lt)⟩
  have HF := Lib.hid hf
  clear hf z1 hb1 hl
  refine' Par.wp_region_pars (fun w w' => Below w.heap.size w w') 7 (by kernel_rfl) (by kernel_rfl) (by kernel_rfl) (by kernel_rfl) (by kernel_rfl) (by kernel_rfl)
    (fun w => Below.refl _ w) (fun h k => below_call h k) (fun vals => ?_)
  rotate_left
  simp only [List.take_succ_cons, List.take_zero, List.drop_succ_cons, List.drop_zero]
  iterate 3 (apply Par.par_x rfl; (focus (intro w6 hR hD K hK; replace hK := Lib.hid hK; skip; clear hR hD; go_simp; exact hK.out _ (Below.refl _ _))); simp only [Act.put, List.setIfInBounds_toArray, List.set_cons_zero, List.set_cons_succ, Nat.reduceAdd, List.cons_append, List.nil_append])
  (apply Par.par_x rfl; (focus (intro w6 hR hD K hK; replace hK := Lib.hid hK; have e0 := cell_of_block (block_below HH.out.1.z (HF.out w6 hR).2.1) 4 (.map (some m)) rfl; clear hR hD; go_simp; exact hK.out _ (Below.refl _ _))); simp only [Act.put, List.setIfInBounds_toArray, List.set_cons_zero, List.set_cons_succ, Nat.reduceAdd, List.cons_append, List.nil_append])
  (apply Par.par_x rfl; (focus (intro w6 hR hD K hK; replace hK := Lib.hid hK; skip; clear hR hD; go_simp; exact hK.out _ (Below.refl _ _))); simp only [Act.put, List.setIfInBounds_toArray, List.set_cons_zero, List.set_cons_succ, Nat.reduceAdd, List.cons_append, List.nil_append])
  (apply Par.par_x rfl; (focus (intro w6 hR hD K hK; replace hK := Lib.hid hK; obtain ⟨e0, e1, e2, e3, e4, e5, e6⟩ := cells7 (HF.out w6 hR).1; clear hR hD; go_simp; exact hK.out _ (Below.refl _ _))); simp only [Act.put, List.setIfInBounds_toArray, List.set_cons_zero, List.set_cons_succ, Nat.reduceAdd, List.cons_append, List.nil_append])
  (apply Par.par_x rfl; (focus (intro w6 hR hD K hK; replace hK := Lib.hid hK; have e0 := (HF.out w6 hR).2.2; clear hR hD; go_simp; exact hK.out _ (Below.refl _ _))); simp only [Act.put, List.setIfInBounds_toArray, List.set_cons_zero, List.set_cons_succ, Nat.reduceAdd, List.cons_append, List.nil_append])
  refine Par.par_end fun w3 hR hp => ?_
  have HF3 := Lib.hid (HF.out w3 hR)
  have HS3 := Lib.hid (HH.out.1.below HF3.out.2.1)
  clear hp hR HF
  rcases so with _ | st
  case none =>
    simp only [isAborted, isHeld, Option.isNone] at hta htn hth
    go_wp2
    go_ret
    rw [HA.out]
    exact ⟨rfl, tv, HS3.out, .of_below HF3.out.2.1⟩
  case some =>
    rcases st with n | ⟨ps, n⟩ | _ | _ | _
    all_goals simp only [isAborted, isHeld, Option.isNone] at hta htn hth
    case prepared =>
      go_wp2
      go_ret
      rw [HA.out]
      exact ⟨rfl, tv, HS3.out, .of_below HF3.out.2.1⟩
    case bound =>
      go_wp2
      go_ret
      rw [HA.out]
      exact ⟨rfl, tv, HS3.out, .of_below HF3.out.2.1⟩
    case freed =>
      go_wp2
      go_ret
      rw [HA.out]
      exact ⟨rfl, tv, HS3.out, .of_below HF3.out.2.1⟩
    case aborted =>
      go_wp2
      go_ret
      rw [HA.out]
      exact ⟨rfl, tv, HS3.out, .of_below HF3.out.2.1⟩
    case held =>
      have HPP := Lib.hid (HP.out.2.2 n HSO.out)
      go_upto_region 5 with fail
      have hf5 : ∀ w6, Below w3.heap.size w3.drew w6 → Below w3.heap.size w3 w6 := fun w6 hb => (Below.refl w3.heap.size w3).drew.trans hb
      have HF5 := Lib.hid hf5
      have HN5 := Lib.hid (show x.peers.length ≤ 1099511627776 by have := HPP.out.2.1; omega)
      have HONE := Lib.hid (show ∀ u ∈ x.peers.map fun n : Nat => Value.int .i64 n, u.oneCell' = true from fun u hu => by obtain ⟨n, _, rfl⟩ := List.mem_map.1 hu; rfl)
      clear hf5
      refine' Par.wp_region_pars (fun w w' => Below w.heap.size w w') 14 (by kernel_rfl) (by kernel_rfl) (by kernel_rfl) (by kernel_rfl) (by kernel_rfl) (by kernel_rfl)
        (fun w => Below.refl _ w) (fun h k => below_call h k) (fun vals => ?_)
      rotate_left
      simp only [List.take_succ_cons, List.take_zero, List.drop_succ_cons, List.drop_zero]
      iterate 2 (apply Par.par_x rfl; (focus (intro w6 hR hD K hK; replace hK := Lib.hid hK; skip; clear hR hD; go_simp; exact hK.out _ (Below.refl _ _))); simp only [Act.put, List.setIfInBounds_toArray, List.set_cons_zero, List.set_cons_succ, Nat.reduceAdd, List.cons_append, List.nil_append])
      (apply Par.par_x rfl; (focus (intro w6 hR hD K hK; replace hK := Lib.hid hK; obtain ⟨e0, e1, e2, e3, e4, e5, e6⟩ := cells7 (block_below HF3.out.1 (HF5.out w6 hR)); clear hR hD; go_simp; exact hK.out _ (Below.refl _ _))); simp only [Act.put, List.setIfInBounds_toArray, List.set_cons_zero, List.set_cons_succ, Nat.reduceAdd, List.cons_append, List.nil_append])
      (apply Par.par_x rfl; (focus (intro w6 hR hD K hK; replace hK := Lib.hid hK; skip; clear hR hD; go_simp; exact hK.out _ (Below.refl _ _))); simp only [Act.put, List.setIfInBounds_toArray, List.set_cons_zero, List.set_cons_succ, Nat.reduceAdd, List.cons_append, List.nil_append])
      (apply Par.par_x rfl; (focus (intro w6 hR hD K hK; replace hK := Lib.hid hK; obtain ⟨e0, e1, e2, e3, e4, e5, e6⟩ := cells7 (block_below HF3.out.1 (HF5.out w6 hR)); clear hR hD; go_simp; exact hK.out _ (Below.refl _ _))); simp only [Act.put, List.setIfInBounds_toArray, List.set_cons_zero, List.set_cons_succ, Nat.reduceAdd, List.cons_append, List.nil_append])
      (apply Par.par_r (fun v w' => w'.ownsRow 0 3 1 v x.peers.length (x.peers.map fun n : Nat => Value.int .i64 n)) rfl (fun v w1 w2 h k => own_below h k); (focus (intro w6 hR hD K hK; replace hK := Lib.hid hK; have HX := Lib.hid (own_below HP.out.1.1 (below_call HF3.out.2.1 (HF5.out w6 hR))); clear hR hD; go_simp; refine (clone_ints w6 _ _ 0 _ HX.out HONE.out HN5.out).mono ?_; rintro e w7 ⟨v', rfl, ho, hb⟩; exact hK.out _ _ hb (own_base ho (Nat.zero_le _)))); simp only [Act.put, List.setIfInBounds_toArray, List.set_cons_zero, List.set_cons_succ, Nat.reduceAdd, List.cons_append, List.nil_append])
      iterate 3 (apply Par.par_x rfl; (focus (intro w6 hR hD K hK; replace hK := Lib.hid hK; skip; clear hR hD; go_simp; exact hK.out _ (Below.refl _ _))); simp only [Act.put, List.setIfInBounds_toArray, List.set_cons_zero, List.set_cons_succ, Nat.reduceAdd, List.cons_append, List.nil_append])
      (apply Par.par_x rfl; (focus (intro w6 hR hD K hK; replace hK := Lib.hid hK; have e0 := cell_of_block (block_below HS3.out.z (HF5.out w6 hR)) 3 (.pointer (some ⟨l, 0, none⟩)) rfl; clear hR hD; go_simp; exact hK.out _ (Below.refl _ _))); simp only [Act.put, List.setIfInBounds_toArray, List.set_cons_zero, List.set_cons_succ, Nat.reduceAdd, List.cons_append, List.nil_append])
      (apply Par.par_x rfl; (focus (intro w6 hR hD K hK; replace hK := Lib.hid hK; skip; clear hR hD; go_simp; exact hK.out _ (Below.refl _ _))); simp only [Act.put, List.setIfInBounds_toArray, List.set_cons_zero, List.set_cons_succ, Nat.reduceAdd, List.cons_append, List.nil_append])
      (apply Par.par_x rfl; (focus (intro w6 hR hD K hK; replace hK := Lib.hid hK; obtain ⟨e0, e1, e2, e3, e4, e5, e6⟩ := cells7 (block_below HF3.out.1 (HF5.out w6 hR)); clear hR hD; go_simp; exact hK.out _ (Below.refl _ _))); simp only [Act.put, List.setIfInBounds_toArray, List.set_cons_zero, List.set_cons_succ, Nat.reduceAdd, List.cons_append, List.nil_append])
      (apply Par.par_r (fun v w' => PlacesQ (fun _ => False) w' v (h.led.get g)) rfl (fun v w1 w2 h k => Rq.below h k); (focus (intro w6 hR hD K hK; replace hK := Lib.hid hK; have HX := Lib.hid (And.intro (HS3.out.led.below (HF5.out w6 hR)) (below_call HF3.out.2.1 (HF5.out w6 hR))); clear hR hD; go_simp; refine (lplaces_any Q w6 l a b h.led HX.out.1 HP.out.2.1 (fun g hg => Nat.lt_of_lt_of_le (HH.out.2.2 g hg) HX.out.2.size) g).mono ?_; rintro e w7 ⟨v', rfl, ho, hb⟩; exact hK.out _ _ hb ⟨ho.1, fun _ _ h => h⟩)); simp only [Act.put, List.setIfInBounds_toArray, List.set_cons_zero, List.set_cons_succ, Nat.reduceAdd, List.cons_append, List.nil_append])
      (apply Par.par_r (fun v w' => ∃ c p, v = .agg #[.int .i64 3, .int .i64 g, c, p, .string ⟨#[]⟩, .int .i64 0, .int .i64 0, .slice none 0 0, .slice none 0 0, .bool false] ∧ w'.ownsRow 0 3 1 c x.peers.length (x.peers.map fun n : Nat => Value.int .i64 n) ∧ PlacesQ (fun _ => False) w' p (h.led.get g)) rfl (fun v w1 w2 h k => by obtain ⟨c, p, h1, h2, h3⟩ := h; exact ⟨c, p, h1, own_below h2 k, Rq.below h3 k⟩); (focus (intro w6 hR hD K hK; replace hK := Lib.hid hK; have h5 : w6.ownsRow 0 3 1 (vals 5) x.peers.length (x.peers.map fun n : Nat => Value.int .i64 n) := hD 5 (by kernel_rfl); have h12 : PlacesQ (fun _ => False) w6 (vals 12) (h.led.get g) := hD 12 (by kernel_rfl); obtain ⟨ca, cc, ec⟩ := own_slicen h5; obtain ⟨qa, qc, eq⟩ := placesQ_slice h12; rw [ec] at h5; rw [eq] at h12; have HX := Lib.hid (And.intro h5 h12); simp only [ec, eq] at hK ⊢; clear hR hD h5 h12 ec eq; go_simp; exact hK.out _ _ (Below.refl _ _) ⟨_, _, rfl, HX.out.1, HX.out.2⟩)); simp only [Act.put, List.setIfInBounds_toArray, List.set_cons_zero, List.set_cons_succ, Nat.reduceAdd, List.cons_append, List.nil_append])
      refine Par.par_end fun w5 hR hp => ?_
      obtain ⟨c, p, ev, hc, hpl⟩ : ∃ c p, vals 13 = .agg #[.int .i64 3, .int .i64 g, c, p, .string ⟨#[]⟩, .int .i64 0, .int .i64 0, .slice none 0 0, .slice none 0 0, .bool false] ∧ w5.ownsRow 0 3 1 c x.peers.length (x.peers.map fun n : Nat => Value.int .i64 n) ∧ PlacesQ (fun _ => False) w5 p (h.led.get g) := hp 13 (by simp)
      simp only [ev]
      have HB5 := Lib.hid (HF5.out w5 hR)
      have HRV := Lib.hid (show RecV w5 (.agg #[.int .i64 3, .int .i64 g, c, p, .string ⟨#[]⟩, .int .i64 0, .int .i64 0, .slice none 0 0, .slice none 0 0, .bool false]) (recP g x.peers (h.led.get g)) from .inr (.inr (.inl ⟨g, c, p, _, _, rfl, rfl, hc, hpl⟩)))
      clear hp hR hc hpl ev HF5
      go_wp2_with fail
      have hS5 := HS3.out.below HB5.out
      have hw5 := below_call HF3.out.2.1 HB5.out
      refine (force_any hS5 (HH.out.2.1.below hw5) HRV.out (good_recP hg HPP.out.1 HPP.out.2.2) HPP.out.2.1 (by omega)).mono ?_
      rintro e w6 ⟨rfl, tv1, hS, hD⟩
      have hpr : Rq Q w6 3 1 (.slice ea en ec) x.peers.length (x.peers.map fun n : Nat => Value.int .i64 n) := (((HP.out.1.below hw5).ex (by decide)).mod hD.mod (hS5.inEx)).sub fun g _ hq => .inl hq
      have hz6 := hD.mod.block' (block_below HF3.out.1 HB5.out) fun e => Nat.lt_irrefl _ (HH.out.1.old _ e)
      have HS6 := Lib.hid (And.intro hS (And.intro ((Did.of_below hw5).trans hD) (And.intro hpr hz6)))
      have HW6 := Lib.hid (show w.heap.size ≤ w6.heap.size from Nat.le_trans hw5.size hD.mod.size)
      clear hS hD hpr hz6 hS5 hw5
      go_upto_region 6 with fail
      have hf6 : ∀ w7, Below w6.heap.size w6.drew w7 → Below w6.heap.size w6 w7 := fun w7 hb => (Below.refl w6.heap.size w6).drew.trans hb
      have HF6 := Lib.hid hf6
      clear hf6
      refine' Par.wp_region_pars (fun w w' => Below w.heap.size w w') 11 (by kernel_rfl) (by kernel_rfl) (by kernel_rfl) (by kernel_rfl) (by kernel_rfl) (by kernel_rfl)
        (fun w => Below.refl _ w) (fun h k => below_call h k) (fun vals => ?_)
      rotate_left
      simp only [List.take_succ_cons, List.take_zero, List.drop_succ_cons, List.drop_zero]
      iterate 3 (apply Par.par_x rfl; (focus (intro w6 hR hD K hK; replace hK := Lib.hid hK; skip; clear hR hD; go_simp; exact hK.out _ (Below.refl _ _))); simp only [Act.put, List.setIfInBounds_toArray, List.set_cons_zero, List.set_cons_succ, Nat.reduceAdd, List.cons_append, List.nil_append])
      (apply Par.par_x rfl; (focus (intro w6 hR hD K hK; replace hK := Lib.hid hK; have e0 := cell_of_block (block_below HS6.out.1.z (HF6.out w6 hR)) 4 (.map (some m)) rfl; clear hR hD; go_simp; exact hK.out _ (Below.refl _ _))); simp only [Act.put, List.setIfInBounds_toArray, List.set_cons_zero, List.set_cons_succ, Nat.reduceAdd, List.cons_append, List.nil_append])
      (apply Par.par_x rfl; (focus (intro w6 hR hD K hK; replace hK := Lib.hid hK; skip; clear hR hD; go_simp; exact hK.out _ (Below.refl _ _))); simp only [Act.put, List.setIfInBounds_toArray, List.set_cons_zero, List.set_cons_succ, Nat.reduceAdd, List.cons_append, List.nil_append])
      (apply Par.par_x rfl; (focus (intro w6 hR hD K hK; replace hK := Lib.hid hK; obtain ⟨e0, e1, e2, e3, e4, e5, e6⟩ := cells7 (block_below HS6.out.2.2.2 (HF6.out w6 hR)); clear hR hD; go_simp; exact hK.out _ (Below.refl _ _))); simp only [Act.put, List.setIfInBounds_toArray, List.set_cons_zero, List.set_cons_succ, Nat.reduceAdd, List.cons_append, List.nil_append])
      (apply Par.par_x rfl; (focus (intro w6 hR hD K hK; replace hK := Lib.hid hK; skip; clear hR hD; go_simp; exact hK.out _ (Below.refl _ _))); simp only [Act.put, List.setIfInBounds_toArray, List.set_cons_zero, List.set_cons_succ, Nat.reduceAdd, List.cons_append, List.nil_append])
      (apply Par.par_x rfl; (focus (intro w6 hR hD K hK; replace hK := Lib.hid hK; obtain ⟨e0, e1, e2, e3, e4, e5, e6⟩ := cells7 (block_below HS6.out.2.2.2 (HF6.out w6 hR)); clear hR hD; go_simp; exact hK.out _ (Below.refl _ _))); simp only [Act.put, List.setIfInBounds_toArray, List.set_cons_zero, List.set_cons_succ, Nat.reduceAdd, List.cons_append, List.nil_append])
      (apply Par.par_r (fun v w' => Rq Q w' 3 1 v x.peers.length (x.peers.map fun n : Nat => Value.int .i64 n)) rfl (fun v w1 w2 h k => Rq.below h k); (focus (intro w6 hR hD K hK; replace hK := Lib.hid hK; have HX := Lib.hid (And.intro (HS6.out.2.2.1.below (HF6.out w6 hR)) (HF6.out w6 hR).size); clear hR hD; go_simp; refine (clone_ints w6 _ _ 0 _ HX.out.1.1 HONE.out HN5.out).mono ?_; rintro e w7 ⟨v', rfl, ho, hb⟩; exact hK.out _ _ hb (Rq.new ho fun g hg => Nat.lt_of_lt_of_le (HH.out.2.2 g hg) (Nat.le_trans HW6.out HX.out.2)))); simp only [Act.put, List.setIfInBounds_toArray, List.set_cons_zero, List.set_cons_succ, Nat.reduceAdd, List.cons_append, List.nil_append])
      (apply Par.par_r (fun v w' => ∃ c, v = .agg #[c, .int .i64 0] ∧ Rq Q w' 3 1 c x.peers.length (x.peers.map fun n : Nat => Value.int .i64 n)) rfl (fun v w1 w2 h k => by obtain ⟨c, h1, h2⟩ := h; exact ⟨c, h1, Rq.below h2 k⟩); (focus (intro w6 hR hD K hK; replace hK := Lib.hid hK; have h8 : Rq Q w6 3 1 (vals 8) x.peers.length (x.peers.map fun n : Nat => Value.int .i64 n) := hD 8 (by kernel_rfl); obtain ⟨ca, cc, ec⟩ := own_slicen h8.1; rw [ec] at h8; have HX := Lib.hid h8; simp only [ec] at hK ⊢; clear hR hD h8 ec; go_simp; exact hK.out _ _ (Below.refl _ _) ⟨_, rfl, HX.out⟩)); simp only [Act.put, List.setIfInBounds_toArray, List.set_cons_zero, List.set_cons_succ, Nat.reduceAdd, List.cons_append, List.nil_append])
      (apply Par.par_r (fun v w' => ∃ c, v = .iface 98 (.agg #[c, .int .i64 0]) ∧ Rq Q w' 3 1 c x.peers.length (x.peers.map fun n : Nat => Value.int .i64 n)) rfl (fun v w1 w2 h k => by obtain ⟨c, h1, h2⟩ := h; exact ⟨c, h1, Rq.below h2 k⟩); (focus (intro w6 hR hD K hK; replace hK := Lib.hid hK; obtain ⟨c, ec, h8⟩ : ∃ c, vals 9 = .agg #[c, .int .i64 0] ∧ Rq Q w6 3 1 c x.peers.length (x.peers.map fun n : Nat => Value.int .i64 n) := hD 9 (by kernel_rfl); have HX := Lib.hid h8; simp only [ec] at hK ⊢; clear hR hD h8 ec; go_simp; exact hK.out _ _ (Below.refl _ _) ⟨_, rfl, HX.out⟩)); simp only [Act.put, List.setIfInBounds_toArray, List.set_cons_zero, List.set_cons_succ, Nat.reduceAdd, List.cons_append, List.nil_append])
      refine Par.par_end fun w7 hR hp => ?_
      obtain ⟨c, ec', h8⟩ : ∃ c, vals 10 = .iface 98 (.agg #[c, .int .i64 0]) ∧ Rq Q w7 3 1 c x.peers.length (x.peers.map fun n : Nat => Value.int .i64 n) := hp 10 (by simp)
      simp only [ec']
      have hS7 := HS6.out.1.below (HF6.out w7 hR)
      obtain ⟨w8, hr8, hS8, hD8⟩ := hS7.put g (sv := .iface 98 (.agg #[c, .int .i64 0])) (st := .prepared x.peers 0) ⟨c, rfl, h8⟩
      have HS8 := Lib.hid (And.intro hS8 ((HS6.out.2.1.trans (.of_below (HF6.out w7 hR))).trans hD8))
      clear hS7 hS8 hD8 hp hR HF6 ec' h8
      go_wp2
      go_ret
      rw [HA.out]
      exact ⟨rfl, tv1, HS8.out.1, HS8.out.2⟩
end Go.Proofs.YtofofjfmhaggmaaGreatDoor
