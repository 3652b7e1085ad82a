/- A hold asked of a shard. -/
import Derived.Test.YtofofjfmhaggmaaGreatDoorWn
set_option linter.unusedVariables false
set_option linter.unusedSimpArgs false
namespace Go.Proofs.YtofofjfmhaggmaaGreatDoor
open Go.RowKit

theorem hold_cases (h : ShL) (x : MsgL) : h.hold x = match h.st x.gang with
    | none => if packE h.led h.mode x.gang x.pods = 0 then ({ h with led := packL h.led h.mode x.gang x.pods }.set x.gang (.held 6), true) else (h, false)
    | some (.held _) => (h.set x.gang (.held 6), true)
    | some .aborted => (h, false)
    | _ => (h, true) := rfl
set_option maxRecDepth 100000 in
set_option maxHeartbeats 4000000 in
theorem hold_any {Q : Nat → Prop} {w : World} {s l a b m t : Nat} {tv : Value} {h : ShL} (H : ShardAt Q w s l a b m t tv h) (ht : Tabs w) (htp : Tops w) (hQ : ∀ g, Q g → g < w.heap.size) {mv : Value} {x : MsgL} (hm : MsgV Q w mv x) (g : Nat) (hxg : x.gang = g)
    (hok : h.led.ok) (hk : h.led.taken.length ≤ 1073741824) (hpl : x.pods.length ≤ 8) (hpo : ∀ p ∈ x.pods, p.okay) :
    Calls Tryz.prog 35 #[.pointer (some ⟨s, 0, none⟩), mv] w fun e w' => e = .returned (.bool (h.hold x).2) ∧ ShPost Q w s l a b m t tv (h.hold x).1 w' := by
  obtain ⟨pa, pn, pc, ea, en, ec, rfl, hpods, hpeers⟩ := hm
  have HH := Lib.hid (And.intro H (And.intro htp hQ))
  have HP := Lib.hid (And.intro hpods (And.intro hok hpo))
  obtain ⟨v, hl, hv⟩ := H.look g
  have hta := ta_aborted hv
  have htn := ta_nil hv
  have htg := ta_guard hv 13
  obtain ⟨y1, _, hth⟩ := ta_held hv
  have hA := hold_cases h x
  rw [hxg] at hA
  obtain ⟨so, hso⟩ : ∃ so, h.st g = so := ⟨_, rfl⟩
  rw [hso] at hta htn hth hA
  have HA := Lib.hid hA
  rw [hxg]
  clear H ht htp hQ hv hso hA hxg hpods hpeers hok hpo
  go_enter Tryz.func35, Tryz.ntmps35
  go_upto_region 1 with fail
  have z1 := alloc_at w (.cells #[.int .i64 x.kind, .int .i64 x.src, .int .i64 x.dst, .int .i64 g, .slice pa pn pc, .slice ea en ec, .bool x.yes] 28)
  have hb1 : Below w.heap.size w (w.alloc (.cells #[.int .i64 x.kind, .int .i64 x.src, .int .i64 x.dst, .int .i64 g, .slice pa pn pc, .slice ea en ec, .bool x.yes] 28)) := below_alloc' (Below.refl _ _) _
  generalize World.alloc w _ = w1 at z1 hb1 ⊢
  have hf : ∀ w6, Below w1.heap.size w1.drew w6 → w6.heap[w.heap.size]? = some (.cells #[.int .i64 x.kind, .int .i64 x.src, .int .i64 x.dst, .int .i64 g, .slice pa pn pc, .slice ea en ec, .bool x.yes] 28 (0, 0)) ∧ Below w.heap.size w w6 ∧ (Instr.lookup 92 (.map (some m)) (.int .i64 g) false).run Tryz.prog w6 = .ok v w6 := fun w6 hb => by
    have hb' : Below w1.heap.size w1 w6 := (Below.refl w1.heap.size w1).drew.trans hb
    have hw := below_call hb1 hb'
    exact ⟨block_below z1 hb', hw, hl w6 (hw.block m HH.out.1.gangs.lt)⟩
  have HF := Lib.hid hf
  clear hf z1 hb1 hl
  refine' Par.wp_region_pars (fun w w' => Below w.heap.size w w') 7 (by kernel_rfl) (by kernel_rfl) (by kernel_rfl) (by kernel_rfl) (by kernel_rfl) (by kernel_rfl)
    (fun w => Below.refl _ w) (fun h k => below_call h k) (fun vals => ?_)
  rotate_left
  simp only [List.take_succ_cons, List.take_zero, List.drop_succ_cons, List.drop_zero]
  iterate 3 (apply Par.par_x rfl; (focus (intro w6 hR hD K hK; replace hK := Lib.hid hK; skip; clear hR hD; go_simp; exact hK.out _ (Below.refl _ _))); simp only [Act.put, List.setIfInBounds_toArray, List.set_cons_zero, List.set_cons_succ, Nat.reduceAdd, List.cons_append, List.nil_append])
  (apply Par.par_x rfl; (focus (intro w6 hR hD K hK; replace hK := Lib.hid hK; have e0 := cell_of_block (block_below HH.out.1.z (HF.out w6 hR).2.1) 4 (.map (some m)) rfl; clear hR hD; go_simp; exact hK.out _ (Below.refl _ _))); simp only [Act.put, List.setIfInBounds_toArray, List.set_cons_zero, List.set_cons_succ, Nat.reduceAdd, List.cons_append, List.nil_append])
  (apply Par.par_x rfl; (focus (intro w6 hR hD K hK; replace hK := Lib.hid hK; skip; clear hR hD; go_simp; exact hK.out _ (Below.refl _ _))); simp only [Act.put, List.setIfInBounds_toArray, List.set_cons_zero, List.set_cons_succ, Nat.reduceAdd, List.cons_append, List.nil_append])
  (apply Par.par_x rfl; (focus (intro w6 hR hD K hK; replace hK := Lib.hid hK; obtain ⟨e0, e1, e2, e3, e4, e5, e6⟩ := cells7 (HF.out w6 hR).1; clear hR hD; go_simp; exact hK.out _ (Below.refl _ _))); simp only [Act.put, List.setIfInBounds_toArray, List.set_cons_zero, List.set_cons_succ, Nat.reduceAdd, List.cons_append, List.nil_append])
  (apply Par.par_x rfl; (focus (intro w6 hR hD K hK; replace hK := Lib.hid hK; have e0 := (HF.out w6 hR).2.2; clear hR hD; go_simp; exact hK.out _ (Below.refl _ _))); simp only [Act.put, List.setIfInBounds_toArray, List.set_cons_zero, List.set_cons_succ, Nat.reduceAdd, List.cons_append, List.nil_append])
  refine Par.par_end fun w3 hR hp => ?_
  have HF3 := Lib.hid (HF.out w3 hR)
  have HS3 := Lib.hid (HH.out.1.below HF3.out.2.1)
  have HSZ := Lib.hid (show w.heap.size < w3.heap.size from (Array.getElem?_eq_some_iff.1 HF3.out.1).1)
  clear hp hR HF
  rcases so with _ | st
  case some =>
    rcases st with n | ⟨ps, n⟩ | _ | _ | _
    all_goals simp only [isAborted, isHeld, Option.isNone] at hta htn hth
    case prepared =>
      go_wp2
      go_ret
      rw [HA.out]
      exact ⟨rfl, tv, HS3.out, .of_below HF3.out.2.1⟩
    case bound =>
      go_wp2
      go_ret
      rw [HA.out]
      exact ⟨rfl, tv, HS3.out, .of_below HF3.out.2.1⟩
    case freed =>
      go_wp2
      go_ret
      rw [HA.out]
      exact ⟨rfl, tv, HS3.out, .of_below HF3.out.2.1⟩
    case aborted =>
      go_wp2
      go_ret
      rw [HA.out]
      exact ⟨rfl, tv, HS3.out, .of_below HF3.out.2.1⟩
    case held =>
      go_upto_region 10 with fail
      have hfA : ∀ w6, Below w3.heap.size w3.drew w6 → Below w3.heap.size w3 w6 := fun w6 hb => (Below.refl w3.heap.size w3).drew.trans hb
      have HFA := Lib.hid hfA
      clear hfA
      refine' Par.wp_region_pars (fun w w' => Below w.heap.size w w') 8 (by kernel_rfl) (by kernel_rfl) (by kernel_rfl) (by kernel_rfl) (by kernel_rfl) (by kernel_rfl)
        (fun w => Below.refl _ w) (fun h k => below_call h k) (fun vals => ?_)
      rotate_left
      simp only [List.take_succ_cons, List.take_zero, List.drop_succ_cons, List.drop_zero]
      iterate 3 (apply Par.par_x rfl; (focus (intro w6 hR hD K hK; replace hK := Lib.hid hK; skip; clear hR hD; go_simp; exact hK.out _ (Below.refl _ _))); simp only [Act.put, List.setIfInBounds_toArray, List.set_cons_zero, List.set_cons_succ, Nat.reduceAdd, List.cons_append, List.nil_append])
      (apply Par.par_x rfl; (focus (intro w6 hR hD K hK; replace hK := Lib.hid hK; have e0 := cell_of_block (block_below HS3.out.z (HFA.out w6 hR)) 4 (.map (some m)) rfl; clear hR hD; go_simp; exact hK.out _ (Below.refl _ _))); simp only [Act.put, List.setIfInBounds_toArray, List.set_cons_zero, List.set_cons_succ, Nat.reduceAdd, List.cons_append, List.nil_append])
      (apply Par.par_x rfl; (focus (intro w6 hR hD K hK; replace hK := Lib.hid hK; skip; clear hR hD; go_simp; exact hK.out _ (Below.refl _ _))); simp only [Act.put, List.setIfInBounds_toArray, List.set_cons_zero, List.set_cons_succ, Nat.reduceAdd, List.cons_append, List.nil_append])
      (apply Par.par_x rfl; (focus (intro w6 hR hD K hK; replace hK := Lib.hid hK; obtain ⟨e0, e1, e2, e3, e4, e5, e6⟩ := cells7 (block_below HF3.out.1 (HFA.out w6 hR)); clear hR hD; go_simp; exact hK.out _ (Below.refl _ _))); simp only [Act.put, List.setIfInBounds_toArray, List.set_cons_zero, List.set_cons_succ, Nat.reduceAdd, List.cons_append, List.nil_append])
      iterate 2 (apply Par.par_x rfl; (focus (intro w6 hR hD K hK; replace hK := Lib.hid hK; skip; clear hR hD; go_simp; exact hK.out _ (Below.refl _ _))); simp only [Act.put, List.setIfInBounds_toArray, List.set_cons_zero, List.set_cons_succ, Nat.reduceAdd, List.cons_append, List.nil_append])
      refine Par.par_end fun w7 hR hp => ?_
      have hS7 := HS3.out.below (HFA.out w7 hR)
      obtain ⟨w8, hr8, hS8, hD8⟩ := hS7.put g (sv := .iface 96 (.agg #[.int .i64 6])) (st := .held 6) rfl
      have HS8 := Lib.hid (And.intro hS8 (((Did.of_below (a := a) (b := b) (m := m) (t := t) (tv := tv) HF3.out.2.1).trans (.of_below (HFA.out w7 hR))).trans hD8))
      clear hS7 hS8 hD8 hp hR HFA
      go_wp2
      go_ret
      rw [HA.out]
      exact ⟨rfl, tv, HS8.out.1, HS8.out.2⟩
  case none =>
    simp only [isAborted, isHeld, Option.isNone] at hta htn hth
    go_upto_region 4 with fail
    obtain ⟨pe, hpe⟩ : ∃ pe, packE h.led h.mode g x.pods = pe := ⟨_, rfl⟩
    have HPE := Lib.hid hpe
    have hqb : Q b := HS3.out.led.qb
    have hf4 : ∀ w6, Mod (fun k => k = b) w3.drew w6 → w6.heap[s]? = some (.cells #[.int .i64 h.me, .int .i64 h.mode, .pointer (some ⟨t, 0, none⟩), .pointer (some ⟨l, 0, none⟩), .map (some m)] 94 (0, 0)) ∧ w6.heap[w.heap.size]? = some (.cells #[.int .i64 x.kind, .int .i64 x.src, .int .i64 x.dst, .int .i64 g, .slice pa pn pc, .slice ea en ec, .bool x.yes] 28 (0, 0)) ∧ PodsQ Q w6 (.slice pa pn pc) x.pods ∧ Tops w6 ∧ (∀ g, Q g → g < w6.heap.size) := fun w6 hm => by
      have hlb := HH.out.1.led.lt.2.2
      refine ⟨hm.block' (w := w3.drew) HS3.out.z fun e => HS3.out.qs (e ▸ hqb), hm.block' (w := w3.drew) HF3.out.1 fun e => by omega, ?_, ?_, fun g hg => ?_⟩
      · exact PodsQ.mod (w := w3.drew) (HP.out.1.below HF3.out.2.1.drew) hm fun g _ e => e ▸ hqb
      · exact Tops.mod (w := w3.drew) (HH.out.2.1.below HF3.out.2.1.drew) hm fun g e => e ▸ HH.out.1.hi.2.1
      · exact Nat.lt_of_lt_of_le (HH.out.2.2 g hg) (Nat.le_trans HF3.out.2.1.size hm.size)
    have HF4 := Lib.hid hf4
    have HL3 := Lib.hid HS3.out.led
    clear hf4 hpe
    refine' Se.wp_region_pass (fun w w' => Below w.heap.size w w') (Mod (fun k => k = b)) 17 (by kernel_rfl) (by kernel_rfl) (by kernel_rfl) (by kernel_rfl) (by kernel_rfl) (by kernel_rfl)
      (fun w => Mod.refl _ w) (fun h k => Mod.trans h k) [(fun w6 => LedAt Q w6 l a b h.led, 12)] [] ?_ ?_ (by simp) (fun vals => ?_)
    case refine'_2 =>
      simp only [List.forall_mem_cons]
      exact ⟨HL3.out.below ((Below.refl w3.heap.size w3).drew), by simp⟩
    case refine'_3 =>
      simp only [List.forall_mem_cons]
      exact ⟨fun w1 w2 k h => LedAt.below h k, by simp⟩
    rotate_left
    simp only [List.take_succ_cons, List.take_zero, List.drop_succ_cons, List.drop_zero]
    iterate 3 (apply Se.pas_x (fun _ _ h => Mod.of_below h) rfl; (focus rfl); (focus (intro w6 hR hD hP K hK; replace hK := Lib.hid hK; skip; clear hR hD hP; go_simp; exact hK.out _ (Below.refl _ _))); simp only [Act.put, List.setIfInBounds_toArray, List.set_cons_zero, List.set_cons_succ, Nat.reduceAdd, List.cons_append, List.nil_append])
    (apply Se.pas_x (fun _ _ h => Mod.of_below h) rfl; (focus rfl); (focus (intro w6 hR hD hP K hK; replace hK := Lib.hid hK; have e0 := cell_of_block (HF4.out w6 hR).1 3 (.pointer (some ⟨l, 0, none⟩)) rfl; clear hR hD hP; go_simp; exact hK.out _ (Below.refl _ _))); simp only [Act.put, List.setIfInBounds_toArray, List.set_cons_zero, List.set_cons_succ, Nat.reduceAdd, List.cons_append, List.nil_append])
    (apply Se.pas_x (fun _ _ h => Mod.of_below h) rfl; (focus rfl); (focus (intro w6 hR hD hP K hK; replace hK := Lib.hid hK; skip; clear hR hD hP; go_simp; exact hK.out _ (Below.refl _ _))); simp only [Act.put, List.setIfInBounds_toArray, List.set_cons_zero, List.set_cons_succ, Nat.reduceAdd, List.cons_append, List.nil_append])
    (apply Se.pas_x (fun _ _ h => Mod.of_below h) rfl; (focus rfl); (focus (intro w6 hR hD hP K hK; replace hK := Lib.hid hK; obtain ⟨e0, e1, e2, e3, e4, e5, e6⟩ := cells7 (HF4.out w6 hR).2.1; clear hR hD hP; go_simp; exact hK.out _ (Below.refl _ _))); simp only [Act.put, List.setIfInBounds_toArray, List.set_cons_zero, List.set_cons_succ, Nat.reduceAdd, List.cons_append, List.nil_append])
    (apply Se.pas_x (fun _ _ h => Mod.of_below h) rfl; (focus rfl); (focus (intro w6 hR hD hP K hK; replace hK := Lib.hid hK; skip; clear hR hD hP; go_simp; exact hK.out _ (Below.refl _ _))); simp only [Act.put, List.setIfInBounds_toArray, List.set_cons_zero, List.set_cons_succ, Nat.reduceAdd, List.cons_append, List.nil_append])
    (apply Se.pas_x (fun _ _ h => Mod.of_below h) rfl; (focus rfl); (focus (intro w6 hR hD hP K hK; replace hK := Lib.hid hK; obtain ⟨e0, e1, e2, e3, e4, e5, e6⟩ := cells7 (HF4.out w6 hR).2.1; clear hR hD hP; go_simp; exact hK.out _ (Below.refl _ _))); simp only [Act.put, List.setIfInBounds_toArray, List.set_cons_zero, List.set_cons_succ, Nat.reduceAdd, List.cons_append, List.nil_append])
    iterate 3 (apply Se.pas_x (fun _ _ h => Mod.of_below h) rfl; (focus rfl); (focus (intro w6 hR hD hP K hK; replace hK := Lib.hid hK; skip; clear hR hD hP; go_simp; exact hK.out _ (Below.refl _ _))); simp only [Act.put, List.setIfInBounds_toArray, List.set_cons_zero, List.set_cons_succ, Nat.reduceAdd, List.cons_append, List.nil_append])
    (apply Se.pas_x (fun _ _ h => Mod.of_below h) rfl; (focus rfl); (focus (intro w6 hR hD hP K hK; replace hK := Lib.hid hK; have e0 := cell_of_block (HF4.out w6 hR).1 1 (.int .i64 h.mode) rfl; clear hR hD hP; go_simp; exact hK.out _ (Below.refl _ _))); simp only [Act.put, List.setIfInBounds_toArray, List.set_cons_zero, List.set_cons_succ, Nat.reduceAdd, List.cons_append, List.nil_append])
    (apply Se.pas_s (Mod (fun k => k = b)) (fun v w' => (∃ r, v = .tuple #[r, .int .i64 pe]) ∧ LedAt Q w' l a b (packL h.led h.mode g x.pods)) (fun _ _ h => h) rfl (fun v w1 w2 h k => ⟨h.1, h.2.below k⟩); (focus rfl); (focus (intro w6 hR hD hP K hK; replace hK := Lib.hid hK; have hled := hP _ (List.mem_cons_self ..) (.inl rfl); have HX := Lib.hid (And.intro hled (HF4.out w6 hR)); clear hD hP hR hled; go_simp; refine (pack_any Q w6 l a b h.led _ x.pods h.mode g HX.out.2.2.2.2.1 HX.out.2.2.2.2.2 HX.out.1 HP.out.2.1 hk HX.out.2.2.2.1 hpl HP.out.2.2).mono ?_; rintro e w7 ⟨r, rfl, hL, hMd⟩; rw [HPE.out]; exact hK.out _ _ hMd ⟨⟨_, rfl⟩, hL⟩)); simp only [Act.put, List.setIfInBounds_toArray, List.set_cons_zero, List.set_cons_succ, Nat.reduceAdd, List.cons_append, List.nil_append])
    (apply Se.pas_r (fun v w' => ∃ r, v = .tuple #[r, .int .i64 pe]) (fun _ _ h => Mod.of_below h) rfl (fun v w1 w2 h k => h); (focus rfl); (focus (intro w6 hR hD hP K hK; replace hK := Lib.hid hK; obtain ⟨⟨r, er⟩, _⟩ : (∃ r, vals 12 = .tuple #[r, .int .i64 pe]) ∧ LedAt Q w6 l a b (packL h.led h.mode g x.pods) := hD 12 (by kernel_rfl); simp only [er] at hK ⊢; clear hR hD hP er; go_simp; exact hK.out _ _ (Below.refl _ _) ⟨_, rfl⟩)); simp only [Act.put, List.setIfInBounds_toArray, List.set_cons_zero, List.set_cons_succ, Nat.reduceAdd, List.cons_append, List.nil_append])
    (apply Se.pas_r (fun v w' => True) (fun _ _ h => Mod.of_below h) rfl (fun v w1 w2 h k => h); (focus rfl); (focus (intro w6 hR hD hP K hK; replace hK := Lib.hid hK; obtain ⟨r, er⟩ : ∃ r, vals 13 = .tuple #[r, .int .i64 pe] := hD 13 (by kernel_rfl); simp only [er] at hK ⊢; clear hR hD hP er; go_simp; exact hK.out _ _ (Below.refl _ _) trivial)); simp only [Act.put, List.setIfInBounds_toArray, List.set_cons_zero, List.set_cons_succ, Nat.reduceAdd, List.cons_append, List.nil_append])
    (apply Se.pas_x (e := .int .i64 pe) (fun _ _ h => Mod.of_below h) rfl; (focus rfl); (focus (intro w6 hR hD hP K hK; replace hK := Lib.hid hK; obtain ⟨r, er⟩ : ∃ r, vals 13 = .tuple #[r, .int .i64 pe] := hD 13 (by kernel_rfl); simp only [er] at hK ⊢; clear hR hD hP er; go_simp; exact hK.out _ (Below.refl _ _))); simp only [Act.put, List.setIfInBounds_toArray, List.set_cons_zero, List.set_cons_succ, Nat.reduceAdd, List.cons_append, List.nil_append])
    (apply Se.pas_r (fun v w' => True) (fun _ _ h => Mod.of_below h) rfl (fun v w1 w2 h k => h); (focus rfl); (focus (intro w6 hR hD hP K hK; replace hK := Lib.hid hK; clear hR hD hP; go_simp; exact hK.out _ _ (Below.refl _ _) trivial)); simp only [Act.put, List.setIfInBounds_toArray, List.set_cons_zero, List.set_cons_succ, Nat.reduceAdd, List.cons_append, List.nil_append])
    refine Se.pas_ends ?_ ?_ fun w5 hR hp _ => ?_
    · simp only [Se.AllK, true_and, and_true, true_or, or_true, Nat.reduceAdd]
      first
        | exact ⟨.inr (.inl (by kernel_rfl)), .inr (.inl (by kernel_rfl)), .inr (.inl (by kernel_rfl))⟩
        | exact ⟨.inr (.inl (by kernel_rfl)), .inr (.inl (by kernel_rfl))⟩
        | exact .inr (.inl (by kernel_rfl))
    · simp only [Se.AllK, true_and, and_true, Nat.reduceAdd]
      intro e he
      simp only [List.mem_cons, List.not_mem_nil, or_false] at he
      subst he
      exact .inl rfl
    obtain ⟨⟨r, er⟩, hL⟩ : (∃ r, vals 12 = .tuple #[r, .int .i64 pe]) ∧ LedAt Q w5 l a b (packL h.led h.mode g x.pods) := hp 12 (by simp)
    have hm5 : Mod (fun k => k = b) w3 w5 := (Mod.of_below (Below.refl w3.heap.size w3).drew).trans hR
    have hS5 := HS3.out.with_led hL hm5
    have HS5 := Lib.hid (And.intro hS5 (((Did.of_below (a := a) (b := b) (m := m) (t := t) (tv := tv) HF3.out.2.1)).trans (.of_mod hm5 fun g hg => .inr (.inl hg))))
    have HZ5 := Lib.hid (HF4.out w5 hR).2.1
    clear er hp hL hm5 hS5 HF4
    by_cases h0 : pe = 0
    · have HH0 := Lib.hid (And.intro HPE.out h0)
      subst h0
      go_upto_region 10 with fail
      have hfA : ∀ w6, Below w5.heap.size w5.drew w6 → Below w5.heap.size w5 w6 := fun w6 hb => (Below.refl w5.heap.size w5).drew.trans hb
      have HFA := Lib.hid hfA
      clear hfA
      refine' Par.wp_region_pars (fun w w' => Below w.heap.size w w') 8 (by kernel_rfl) (by kernel_rfl) (by kernel_rfl) (by kernel_rfl) (by kernel_rfl) (by kernel_rfl)
        (fun w => Below.refl _ w) (fun h k => below_call h k) (fun vals => ?_)
      rotate_left
      simp only [List.take_succ_cons, List.take_zero, List.drop_succ_cons, List.drop_zero]
      iterate 3 (apply Par.par_x rfl; (focus (intro w6 hR hD K hK; replace hK := Lib.hid hK; skip; clear hR hD; go_simp; exact hK.out _ (Below.refl _ _))); simp only [Act.put, List.setIfInBounds_toArray, List.set_cons_zero, List.set_cons_succ, Nat.reduceAdd, List.cons_append, List.nil_append])
      (apply Par.par_x rfl; (focus (intro w6 hR hD K hK; replace hK := Lib.hid hK; have e0 := cell_of_block (block_below HS5.out.1.z (HFA.out w6 hR)) 4 (.map (some m)) rfl; clear hR hD; go_simp; exact hK.out _ (Below.refl _ _))); simp only [Act.put, List.setIfInBounds_toArray, List.set_cons_zero, List.set_cons_succ, Nat.reduceAdd, List.cons_append, List.nil_append])
      (apply Par.par_x rfl; (focus (intro w6 hR hD K hK; replace hK := Lib.hid hK; skip; clear hR hD; go_simp; exact hK.out _ (Below.refl _ _))); simp only [Act.put, List.setIfInBounds_toArray, List.set_cons_zero, List.set_cons_succ, Nat.reduceAdd, List.cons_append, List.nil_append])
      (apply Par.par_x rfl; (focus (intro w6 hR hD K hK; replace hK := Lib.hid hK; obtain ⟨e0, e1, e2, e3, e4, e5, e6⟩ := cells7 (block_below HZ5.out (HFA.out w6 hR)); clear hR hD; go_simp; exact hK.out _ (Below.refl _ _))); simp only [Act.put, List.setIfInBounds_toArray, List.set_cons_zero, List.set_cons_succ, Nat.reduceAdd, List.cons_append, List.nil_append])
      iterate 2 (apply Par.par_x rfl; (focus (intro w6 hR hD K hK; replace hK := Lib.hid hK; skip; clear hR hD; go_simp; exact hK.out _ (Below.refl _ _))); simp only [Act.put, List.setIfInBounds_toArray, List.set_cons_zero, List.set_cons_succ, Nat.reduceAdd, List.cons_append, List.nil_append])
      refine Par.par_end fun w7 hR hp => ?_
      have hS7 := HS5.out.1.below (HFA.out w7 hR)
      obtain ⟨w8, hr8, hS8, hD8⟩ := hS7.put g (sv := .iface 96 (.agg #[.int .i64 6])) (st := .held 6) rfl
      have HS8 := Lib.hid (And.intro hS8 ((HS5.out.2.trans (.of_below (HFA.out w7 hR))).trans hD8))
      clear hS7 hS8 hD8 hp hR HFA
      go_wp2
      go_ret
      rw [HA.out]
      simp only [HPE.out, if_true]
      exact ⟨rfl, tv, HS8.out.1, HS8.out.2⟩
    · have h00 : (pe == 0) = false := beq_eq_false_iff_ne.2 h0
      have hpk : packL h.led h.mode g x.pods = h.led := by
        unfold packL
        rw [HPE.out, if_neg h0]
      have HPK := Lib.hid hpk
      have HN0 := Lib.hid h0
      clear hpk
      go_wp2
      go_ret
      rw [HA.out]
      simp only [HPE.out, if_neg HN0.out]
      have := HS5.out.1
      rw [HPK.out] at this
      exact ⟨rfl, tv, this, HS5.out.2⟩
end Go.Proofs.YtofofjfmhaggmaaGreatDoor
/-! What a shard answers. -/
set_option linter.unusedVariables false
set_option linter.unusedSimpArgs false
namespace Go.Proofs.YtofofjfmhaggmaaGreatDoor
open Go.RowKit

/-- The cells of a message without pods and peers. -/
def bareC (k a b g : Int) (y : Bool) : List Value := [.int .i64 k, .int .i64 a, .int .i64 b, .int .i64 g, .slice none 0 0, .slice none 0 0, .bool y]
/-- A message's form as a value. -/
def MsgS (v : Value) (x : MsgL) : Prop := ∃ pa pn pc ea en ec, v = .agg #[.int .i64 x.kind, .int .i64 x.src, .int .i64 x.dst, .int .i64 x.gang, .slice pa pn pc, .slice ea en ec, .bool x.yes]
theorem MsgV.s {Q : Nat → Prop} {w : World} {v : Value} {x : MsgL} (h : MsgV Q w v x) : MsgS v x := by
  obtain ⟨pa, pn, pc, ea, en, ec, h1, _⟩ := h
  exact ⟨pa, pn, pc, ea, en, ec, h1⟩
set_option maxRecDepth 100000 in
set_option maxHeartbeats 1000000 in
theorem answered_any {Q : Nat → Prop} {w : World} {s l a b m t : Nat} {tv : Value} {h : ShL} (H : ShardAt Q w s l a b m t tv h) {mv : Value} {x : MsgL} (hm : MsgS mv x) (k : Int) (yes is : Bool) :
    Calls Tryz.prog 34 #[.pointer (some ⟨s, 0, none⟩), mv, .int .i64 k, .bool yes, .bool is] w fun e w' => (∃ v, e = .returned v ∧ w'.ownsRow w.heap.size 28 7 v (if is then 1 else 0) (if is then bareC k h.me x.src x.gang yes else [])) ∧ Below w.heap.size w w' := by
  obtain ⟨pa, pn, pc, ea, en, ec, rfl⟩ := hm
  have HH := Lib.hid H
  clear H
  cases is with
  | false =>
    go_enter Tryz.func34, Tryz.ntmps34
    go_wp2
    go_ret
    exact ⟨⟨_, rfl, World.ownsRow_nil _ _ _ _⟩, below_alloc' (Below.refl _ _) _⟩
  | true =>
    go_enter Tryz.func34, Tryz.ntmps34
    go_upto_region 3 with fail
    have z1 := alloc_at w (.cells #[.int .i64 x.kind, .int .i64 x.src, .int .i64 x.dst, .int .i64 x.gang, .slice pa pn pc, .slice ea en ec, .bool x.yes] 28)
    have hb1 : Below w.heap.size w (w.alloc (.cells #[.int .i64 x.kind, .int .i64 x.src, .int .i64 x.dst, .int .i64 x.gang, .slice pa pn pc, .slice ea en ec, .bool x.yes] 28)) := below_alloc' (Below.refl _ _) _
    generalize World.alloc w _ = w1 at z1 hb1 ⊢
    have hf : ∀ w6, Below w1.heap.size w1.drew w6 → w6.heap[w.heap.size]? = some (.cells #[.int .i64 x.kind, .int .i64 x.src, .int .i64 x.dst, .int .i64 x.gang, .slice pa pn pc, .slice ea en ec, .bool x.yes] 28 (0, 0)) ∧ Below w.heap.size w w6 := fun w6 hb => by
      have hb' : Below w1.heap.size w1 w6 := (Below.refl w1.heap.size w1).drew.trans hb
      exact ⟨block_below z1 hb', below_call hb1 hb'⟩
    have HF := Lib.hid hf
    clear hf z1 hb1
    refine' Par.wp_region_pars (fun w w' => Below w.heap.size w w') 11 (by kernel_rfl) (by kernel_rfl) (by kernel_rfl) (by kernel_rfl) (by kernel_rfl) (by kernel_rfl)
      (fun w => Below.refl _ w) (fun h k => below_call h k) (fun vals => ?_)
    rotate_left
    simp only [List.take_succ_cons, List.take_zero, List.drop_succ_cons, List.drop_zero]
    iterate 4 (apply Par.par_x rfl; (focus (intro w6 hR hD K hK; replace hK := Lib.hid hK; skip; clear hR hD; go_simp; exact hK.out _ (Below.refl _ _))); simp only [Act.put, List.setIfInBounds_toArray, List.set_cons_zero, List.set_cons_succ, Nat.reduceAdd, List.cons_append, List.nil_append])
    (apply Par.par_x rfl; (focus (intro w6 hR hD K hK; replace hK := Lib.hid hK; have e0 := cell_of_block (block_below HH.out.z (HF.out w6 hR).2) 0 (.int .i64 h.me) rfl; clear hR hD; go_simp; exact hK.out _ (Below.refl _ _))); simp only [Act.put, List.setIfInBounds_toArray, List.set_cons_zero, List.set_cons_succ, Nat.reduceAdd, List.cons_append, List.nil_append])
    (apply Par.par_x rfl; (focus (intro w6 hR hD K hK; replace hK := Lib.hid hK; skip; clear hR hD; go_simp; exact hK.out _ (Below.refl _ _))); simp only [Act.put, List.setIfInBounds_toArray, List.set_cons_zero, List.set_cons_succ, Nat.reduceAdd, List.cons_append, List.nil_append])
    (apply Par.par_x rfl; (focus (intro w6 hR hD K hK; replace hK := Lib.hid hK; obtain ⟨e0, e1, e2, e3, e4, e5, e6⟩ := cells7 (HF.out w6 hR).1; clear hR hD; go_simp; exact hK.out _ (Below.refl _ _))); simp only [Act.put, List.setIfInBounds_toArray, List.set_cons_zero, List.set_cons_succ, Nat.reduceAdd, List.cons_append, List.nil_append])
    (apply Par.par_x rfl; (focus (intro w6 hR hD K hK; replace hK := Lib.hid hK; skip; clear hR hD; go_simp; exact hK.out _ (Below.refl _ _))); simp only [Act.put, List.setIfInBounds_toArray, List.set_cons_zero, List.set_cons_succ, Nat.reduceAdd, List.cons_append, List.nil_append])
    (apply Par.par_x rfl; (focus (intro w6 hR hD K hK; replace hK := Lib.hid hK; obtain ⟨e0, e1, e2, e3, e4, e5, e6⟩ := cells7 (HF.out w6 hR).1; clear hR hD; go_simp; exact hK.out _ (Below.refl _ _))); simp only [Act.put, List.setIfInBounds_toArray, List.set_cons_zero, List.set_cons_succ, Nat.reduceAdd, List.cons_append, List.nil_append])
    iterate 2 (apply Par.par_x rfl; (focus (intro w6 hR hD K hK; replace hK := Lib.hid hK; skip; clear hR hD; go_simp; exact hK.out _ (Below.refl _ _))); simp only [Act.put, List.setIfInBounds_toArray, List.set_cons_zero, List.set_cons_succ, Nat.reduceAdd, List.cons_append, List.nil_append])
    refine Par.par_end fun w2 hR hp => ?_
    have HB2 := Lib.hid (HF.out w2 hR).2
    clear hp hR HF
    go_wp2
    go_ret
    refine ⟨⟨_, rfl, ?_⟩, below_call HB2.out (below_alloc' (Below.refl _ _) _)⟩
    exact ⟨rfl, .inr ⟨_, 1, _, rfl, HB2.out.size, alloc_at _ _, Nat.le_refl _, by decide, rfl, rfl⟩⟩
end Go.Proofs.YtofofjfmhaggmaaGreatDoor
