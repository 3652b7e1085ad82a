/- A message got by a shard. -/
import Derived.Test.YtofofjfmhaggmaaGreatDoorWq
set_option linter.unusedVariables false
set_option linter.unusedSimpArgs false
namespace Go.Proofs.YtofofjfmhaggmaaGreatDoor
open Go.RowKit

def bareM (m : MsgL) : List Value := bareC m.kind m.src m.dst m.gang m.yes
/-- A row of messages without pods and peers, in memory from block base on. -/
def MsgRow (base : Nat) (w : World) (v : Value) (ms : List MsgL) : Prop := w.ownsRow base 28 7 v ms.length (ms.flatMap bareM)
theorem MsgRow.below {base : Nat} {w w' : World} {v : Value} {ms : List MsgL} (h : MsgRow base w v ms) (k : Below w.heap.size w w') : MsgRow base w' v ms := own_below h k
theorem MsgRow.nil (base : Nat) (w : World) : MsgRow base w (.slice none 0 0) [] := World.ownsRow_nil _ _ _ _
theorem MsgRow.of_ans {base N : Nat} {w : World} {v : Value} {h : ShL} {x : MsgL} {k : Int} {yes is : Bool} (ho : w.ownsRow base 28 7 v (if is then 1 else 0) (if is then bareC k h.me x.src x.gang yes else [])) (hb : N ≤ base) : MsgRow N w v (h.ans x k yes is) := by
  unfold MsgRow ShL.ans
  cases is
  · exact own_base ho hb
  · simpa [bareM] using own_base ho hb
/-- What a shard wants of a message that it gets. -/
structure GetOk (h : ShL) (x : MsgL) : Prop where
  gang : 1 ≤ x.gang ∧ x.gang ≤ 999999
  ok : h.led.ok
  few : h.led.taken.length ≤ 1073741824
  recs : h.recs.length ≤ 990
  pods : x.kind = 1 → x.pods.length ≤ 8 ∧ ∀ p ∈ x.pods, p.okay
  peers : x.kind = 3 → ∀ n, h.st x.gang = some (.held n) → peersB x.peers = true ∧ x.peers.length ≤ 16 ∧ placesB (h.led.get x.gang)
theorem ans_me {h h' : ShL} (e : h'.me = h.me) (x : MsgL) (k : Int) (yes is : Bool) : h'.ans x k yes is = h.ans x k yes is := by
  unfold ShL.ans
  rw [e]
theorem me_commit (h : ShL) (g : Int) : (h.commit g).me = h.me := by
  unfold ShL.commit
  split <;> rfl
theorem me_hold (h : ShL) (x : MsgL) : (h.hold x).1.me = h.me := by
  unfold ShL.hold
  split
  · split <;> rfl
  all_goals rfl
theorem me_prepare (h : ShL) (x : MsgL) : (h.prepare x).1.me = h.me := by
  unfold ShL.prepare
  split <;> rfl
theorem me_decide (h : ShL) (x : MsgL) : (h.decide x).1.me = h.me := by
  have e : (if x.yes then h.commit x.gang else h).me = h.me := by split; exact me_commit _ _; rfl
  unfold ShL.decide
  simp only
  generalize (if x.yes then h.commit x.gang else h) = h1 at e
  split
  · exact e
  · exact e
  · split <;> exact e
  · split <;> exact e
  · exact e
theorem me_ask (h : ShL) (x : MsgL) : (h.ask x).1.me = h.me := by
  unfold ShL.ask
  split <;> rfl
theorem me_free (h : ShL) (g : Int) : (h.free g).1.me = h.me := by
  have e := me_commit h g
  unfold ShL.free
  simp only
  generalize h.commit g = h1 at e
  split <;> exact e
theorem decide_any {Q : Nat → Prop} {w : World} {s l a b m t : Nat} {tv : Value} {h : ShL} (H : ShardAt Q w s l a b m t tv h) (ht : Tabs w) {mv : Value} {x : MsgL} (hm : MsgV Q w mv x) (g : Nat) (hxg : x.gang = g) (hg : 1 ≤ g ∧ g ≤ 999999) (hr : h.recs.length ≤ 999) :
    Calls Tryz.prog 37 #[.pointer (some ⟨s, 0, none⟩), mv] w fun e w' => e = .returned (.bool (h.decide x).2) ∧ ShPost Q w s l a b m t tv (h.decide x).1 w' := by
  obtain ⟨pa, pn, pc, ea, en, ec, rfl, _⟩ := hm
  rw [hxg]
  cases hy : x.yes with
  | true => exact decide_true H ht x pa ea pn pc en ec g hxg hy hg hr
  | false => exact decide_false H ht x pa ea pn pc en ec g hxg hy hg hr

theorem free_is {Q : Nat → Prop} {w : World} {s l a b m t : Nat} {tv : Value} {h : ShL} (H : ShardAt Q w s l a b m t tv h) (ht : Tabs w) (g : Nat) {k : Int} (hk : k = g) (hg : 1 ≤ g ∧ g ≤ 999999) (hr : h.recs.length ≤ 999) :
    Calls Tryz.prog 40 #[.pointer (some ⟨s, 0, none⟩), .int .i64 g] w fun e w' => e = .returned (.bool (h.free k).2) ∧ ShPost Q w s l a b m t tv (h.free k).1 w' := by
  subst hk; exact free_any H ht g hg hr


set_option maxRecDepth 100000 in
set_option maxHeartbeats 4000000 in
theorem get_any {Q : Nat → Prop} {w : World} {s l a b m t : Nat} {tv : Value} {h : ShL} (H : ShardAt Q w s l a b m t tv h) (ht : Tabs w) (htp : Tops w) (hQ : ∀ g, Q g → g < w.heap.size) {mv : Value} {x : MsgL} (hm : MsgV Q w mv x) (g : Nat) (hxg : x.gang = g) (hx : GetOk h x) :
    Calls Tryz.prog 14 #[.pointer (some ⟨s, 0, none⟩), mv] w fun e w' => (∃ v, e = .returned v ∧ MsgRow w.heap.size w' v (h.get x).2) ∧ ShPost Q w s l a b m t tv (h.get x).1 w' := by
  obtain ⟨pa, pn, pc, ea, en, ec, hmv⟩ := hm.s
  have hg : 1 ≤ g ∧ g ≤ 999999 := by have := hx.gang; omega
  have HH := Lib.hid (And.intro H (And.intro ht (And.intro htp hQ)))
  have HG := Lib.hid hx
  have hr := hx.recs
  have HXG := Lib.hid hxg
  obtain ⟨kd, hkd⟩ : ∃ kd, x.kind = kd := ⟨_, rfl⟩
  have HK := Lib.hid hkd
  rw [hxg, hkd] at hmv
  subst hmv
  have HM := Lib.hid hm
  have HS := Lib.hid hm.s
  clear H ht htp hQ hm hx
  go_enter Tryz.func14, Tryz.ntmps14
  go_upto_region 1 with fail
  have z1 := alloc_at w (.cells #[.int .i64 kd, .int .i64 x.src, .int .i64 x.dst, .int .i64 g, .slice pa pn pc, .slice ea en ec, .bool x.yes] 28)
  have hb1 : Below w.heap.size w (w.alloc (.cells #[.int .i64 kd, .int .i64 x.src, .int .i64 x.dst, .int .i64 g, .slice pa pn pc, .slice ea en ec, .bool x.yes] 28)) := below_alloc' (Below.refl _ _) _
  generalize World.alloc w _ = w1 at z1 hb1 ⊢
  have hf : ∀ w6, SMod a b m t tv w1.drew w6 → w6.heap[w.heap.size]? = some (.cells #[.int .i64 kd, .int .i64 x.src, .int .i64 x.dst, .int .i64 g, .slice pa pn pc, .slice ea en ec, .bool x.yes] 28 (0, 0)) := fun w6 hm => Mod.block' (w := w1.drew) hm z1 fun e => Nat.lt_irrefl _ (HH.out.1.old _ e)
  have HF := Lib.hid hf
  have HB := Lib.hid hb1
  obtain ⟨k0, k1, k2, k3, k4, k5, k6⟩ := cells7 z1
  have HZ1 := Lib.hid z1
  clear hf hb1 z1
  have HKG := Lib.hid (show h.get x = if kd = 1 then ((h.hold x).1, h.ans x 2 (h.hold x).2 true)
    else if kd = 3 then ((h.prepare x).1, h.ans x 4 (h.prepare x).2 true)
    else if kd = 5 then ((h.decide x).1, h.ans x 6 false (h.decide x).2)
    else if kd = 7 then ((h.ask x).1, h.ans x 8 (h.ask x).2.1 (h.ask x).2.2)
    else if kd = 8 then (h.told x, [])
    else if kd = 9 then ((h.free x.gang).1, h.ans x 10 false (h.free x.gang).2)
    else (h, []) by rw [← hkd]; rfl)
  clear hkd hxg
  by_cases c1 : kd = 1
  · have q1 : (kd == 1) = true := by rw [c1]; rfl
    have HKH := Lib.hid (HKG.out.trans (if_pos c1))
    have HME := Lib.hid (me_hold h x)
    have HC1 := Lib.hid c1
    clear c1
    go_upto_region 3 with fail
    refine' Se.wp_region_pass (fun w w' => Below w.heap.size w w') (SMod a b m t tv) 7 (by kernel_rfl) (by kernel_rfl) (by kernel_rfl) (by kernel_rfl) (by kernel_rfl) (by kernel_rfl)
      (fun w => Mod.refl _ w) (fun h k => Mod.trans h k) [(fun w6 => ShardAt Q w6 s l a b m t tv h ∧ Tabs w6 ∧ Tops w6 ∧ MsgV Q w6 (.agg #[.int .i64 kd, .int .i64 x.src, .int .i64 x.dst, .int .i64 g, .slice pa pn pc, .slice ea en ec, .bool x.yes]) x ∧ w.heap.size ≤ w6.heap.size, 4)] [] ?_ ?_ (by simp) (fun vals => ?_)
    case refine'_2 =>
      simp only [List.forall_mem_cons]
      exact ⟨⟨HH.out.1.below HB.out.drew, HH.out.2.1.below HB.out.drew, HH.out.2.2.1.below HB.out.drew, HM.out.below HB.out.drew, HB.out.size⟩, by simp⟩
    case refine'_3 =>
      simp only [List.forall_mem_cons]
      exact ⟨fun w1 w2 k h => ⟨h.1.below k, h.2.1.below k, h.2.2.1.below k, h.2.2.2.1.below k, Nat.le_trans h.2.2.2.2 k.size⟩, by simp⟩
    rotate_left
    simp only [List.take_succ_cons, List.take_zero, List.drop_succ_cons, List.drop_zero]
    iterate 4 (apply Se.pas_x (fun _ _ h => Mod.of_below h) rfl; (focus rfl); (focus (intro w6 hR hD hP K hK; replace hK := Lib.hid hK; obtain ⟨e0, e1, e2, e3, e4, e5, e6⟩ := cells7 (HF.out w6 hR); clear hR hD hP; go_simp; exact hK.out _ (Below.refl _ _))); simp only [Act.put, List.setIfInBounds_toArray, List.set_cons_zero, List.set_cons_succ, Nat.reduceAdd, List.cons_append, List.nil_append])
    (apply Se.pas_s (SMod a b m t tv) (fun v w' => v = .bool (h.hold x).2 ∧ w.heap.size ≤ w'.heap.size ∧ ∃ tv', ShardAt Q w' s l a b m t tv' (h.hold x).1 ∧ (tv'.ownBlock = tv.ownBlock ∨ ∀ g, tv'.ownBlock = some g → w.heap.size ≤ g)) (fun _ _ h => h) rfl (fun v w1 w2 h k => ⟨h.1, Nat.le_trans h.2.1 k.size, by obtain ⟨tv', h1, h2⟩ := h.2.2; exact ⟨tv', h1.below k, h2⟩⟩); (focus rfl); (focus (intro w6 hR hD hP K hK; replace hK := Lib.hid hK; have hx := hP _ (List.mem_cons_self ..) (.inl rfl); have HX := Lib.hid hx; clear hD hP hR hx; go_simp; refine (hold_any HX.out.1 HX.out.2.1 HX.out.2.2.1 (fun g hg => Nat.lt_of_lt_of_le (HH.out.2.2.2 g hg) HX.out.2.2.2.2) HX.out.2.2.2.1 g HXG.out HG.out.ok HG.out.few (HG.out.pods (HK.out.trans HC1.out)).1 (HG.out.pods (HK.out.trans HC1.out)).2).mono ?_; rintro e w7 ⟨rfl, tv', hS, hDi⟩; refine hK.out _ _ hDi.mod ⟨rfl, Nat.le_trans HX.out.2.2.2.2 hDi.mod.size, tv', hS, hDi.row.imp id fun e g hg => Nat.le_trans HX.out.2.2.2.2 (e g hg)⟩)); simp only [Act.put, List.setIfInBounds_toArray, List.set_cons_zero, List.set_cons_succ, Nat.reduceAdd, List.cons_append, List.nil_append])
    (apply Se.pas_r (fun v w' => MsgRow w.heap.size w' v (h.ans x 2 (h.hold x).2 true)) (fun _ _ h => Mod.of_below h) rfl (fun v w1 w2 h k => h.below k); (focus rfl); (focus (intro w6 hR hD hP K hK; replace hK := Lib.hid hK; obtain ⟨ev, hsz, tv', hS, _⟩ : vals 4 = .bool (h.hold x).2 ∧ w.heap.size ≤ w6.heap.size ∧ ∃ tv', ShardAt Q w6 s l a b m t tv' (h.hold x).1 ∧ (tv'.ownBlock = tv.ownBlock ∨ ∀ g, tv'.ownBlock = some g → w.heap.size ≤ g) := hD 4 (by kernel_rfl); have HX := Lib.hid (And.intro hS hsz); simp only [ev] at hK ⊢; clear hD hP hR hS hsz ev; go_simp; refine (answered_any HX.out.1 (HS.out) 2 _ _).mono ?_; rintro e w7 ⟨⟨v', rfl, ho⟩, hb⟩; refine hK.out _ _ hb ?_; have := MsgRow.of_ans ho HX.out.2; rwa [ans_me HME.out] at this)); simp only [Act.put, List.setIfInBounds_toArray, List.set_cons_zero, List.set_cons_succ, Nat.reduceAdd, List.cons_append, List.nil_append])
    (apply Se.pas_r (fun v w' => MsgRow w.heap.size w' v (h.ans x 2 (h.hold x).2 true)) (fun _ _ h => Mod.of_below h) rfl (fun v w1 w2 h k => h.below k); (focus rfl); (focus (intro w6 hR hD hP K hK; replace hK := Lib.hid hK; have h5 : MsgRow w.heap.size w6 (vals 5) (h.ans x 2 (h.hold x).2 true) := hD 5 (by kernel_rfl); have HX := Lib.hid h5; clear hD hP hR h5; go_simp; exact hK.out _ _ (Below.refl _ _) HX.out)); simp only [Act.put, List.setIfInBounds_toArray, List.set_cons_zero, List.set_cons_succ, Nat.reduceAdd, List.cons_append, List.nil_append])
    refine Se.pas_ends ?_ ?_ fun w5 hR hp _ => ?_
    · simp only [Se.AllK, true_and, and_true, true_or, or_true, Nat.reduceAdd]
      exact ⟨.inr (.inl (by kernel_rfl)), .inr (.inl (by kernel_rfl))⟩
    · simp only [Se.AllK, true_and, and_true, Nat.reduceAdd]
      intro e he
      simp only [List.mem_cons, List.not_mem_nil, or_false] at he
      subst he
      exact .inl rfl
    have h4 : vals 4 = .bool (h.hold x).2 ∧ w.heap.size ≤ w5.heap.size ∧ ∃ tv', ShardAt Q w5 s l a b m t tv' (h.hold x).1 ∧ (tv'.ownBlock = tv.ownBlock ∨ ∀ g, tv'.ownBlock = some g → w.heap.size ≤ g) := hp 4 (by simp)
    have h6 : MsgRow w.heap.size w5 (vals 6) (h.ans x 2 (h.hold x).2 true) := hp 6 (by simp)
    have HZ := Lib.hid (And.intro h4 (And.intro h6 (Mod.trans (Mod.of_below HB.out.drew) hR)))
    clear h4 h6 hp hR
    go_wp2
    go_ret
    rw [HKH.out]
    obtain ⟨⟨-, -, tv', hS, hr'⟩, ho, hm⟩ := HZ.out
    exact ⟨⟨_, rfl, ho⟩, tv', hS, hm, hr'⟩
  have n1 : (kd == 1) = false := beq_eq_false_iff_ne.2 c1
  by_cases c3 : kd = 3
  · have q3 : (kd == 3) = true := by rw [c3]; rfl
    have HKH := Lib.hid (HKG.out.trans ((if_neg c1).trans (if_pos c3)))
    have HME := Lib.hid (me_prepare h x)
    have HC1 := Lib.hid c3
    clear c1 c3
    go_upto_region 5 with fail
    refine' Se.wp_region_pass (fun w w' => Below w.heap.size w w') (SMod a b m t tv) 7 (by kernel_rfl) (by kernel_rfl) (by kernel_rfl) (by kernel_rfl) (by kernel_rfl) (by kernel_rfl)
      (fun w => Mod.refl _ w) (fun h k => Mod.trans h k) [(fun w6 => ShardAt Q w6 s l a b m t tv h ∧ Tabs w6 ∧ Tops w6 ∧ MsgV Q w6 (.agg #[.int .i64 kd, .int .i64 x.src, .int .i64 x.dst, .int .i64 g, .slice pa pn pc, .slice ea en ec, .bool x.yes]) x ∧ w.heap.size ≤ w6.heap.size, 4)] [] ?_ ?_ (by simp) (fun vals => ?_)
    case refine'_2 =>
      simp only [List.forall_mem_cons]
      exact ⟨⟨HH.out.1.below HB.out.drew, HH.out.2.1.below HB.out.drew, HH.out.2.2.1.below HB.out.drew, HM.out.below HB.out.drew, HB.out.size⟩, by simp⟩
    case refine'_3 =>
      simp only [List.forall_mem_cons]
      exact ⟨fun w1 w2 k h => ⟨h.1.below k, h.2.1.below k, h.2.2.1.below k, h.2.2.2.1.below k, Nat.le_trans h.2.2.2.2 k.size⟩, by simp⟩
    rotate_left
    simp only [List.take_succ_cons, List.take_zero, List.drop_succ_cons, List.drop_zero]
    iterate 4 (apply Se.pas_x (fun _ _ h => Mod.of_below h) rfl; (focus rfl); (focus (intro w6 hR hD hP K hK; replace hK := Lib.hid hK; obtain ⟨e0, e1, e2, e3, e4, e5, e6⟩ := cells7 (HF.out w6 hR); clear hR hD hP; go_simp; exact hK.out _ (Below.refl _ _))); simp only [Act.put, List.setIfInBounds_toArray, List.set_cons_zero, List.set_cons_succ, Nat.reduceAdd, List.cons_append, List.nil_append])
    (apply Se.pas_s (SMod a b m t tv) (fun v w' => v = .bool (h.prepare x).2 ∧ w.heap.size ≤ w'.heap.size ∧ ∃ tv', ShardAt Q w' s l a b m t tv' (h.prepare x).1 ∧ (tv'.ownBlock = tv.ownBlock ∨ ∀ g, tv'.ownBlock = some g → w.heap.size ≤ g)) (fun _ _ h => h) rfl (fun v w1 w2 h k => ⟨h.1, Nat.le_trans h.2.1 k.size, by obtain ⟨tv', h1, h2⟩ := h.2.2; exact ⟨tv', h1.below k, h2⟩⟩); (focus rfl); (focus (intro w6 hR hD hP K hK; replace hK := Lib.hid hK; have hx := hP _ (List.mem_cons_self ..) (.inl rfl); have HX := Lib.hid hx; clear hD hP hR hx; go_simp; refine (prepare_any HX.out.1 HX.out.2.1 (fun g hg => Nat.lt_of_lt_of_le (HH.out.2.2.2 g hg) HX.out.2.2.2.2) HX.out.2.2.2.1 g HXG.out hg HG.out.ok (by omega) (fun n hn => HG.out.peers (HK.out.trans HC1.out) n (by rw [HXG.out]; exact hn) |>.imp id fun h => ⟨h.1, by rw [← HXG.out]; exact h.2⟩)).mono ?_; rintro e w7 ⟨rfl, tv', hS, hDi⟩; refine hK.out _ _ hDi.mod ⟨rfl, Nat.le_trans HX.out.2.2.2.2 hDi.mod.size, tv', hS, hDi.row.imp id fun e g hg => Nat.le_trans HX.out.2.2.2.2 (e g hg)⟩)); simp only [Act.put, List.setIfInBounds_toArray, List.set_cons_zero, List.set_cons_succ, Nat.reduceAdd, List.cons_append, List.nil_append])
    (apply Se.pas_r (fun v w' => MsgRow w.heap.size w' v (h.ans x 4 (h.prepare x).2 true)) (fun _ _ h => Mod.of_below h) rfl (fun v w1 w2 h k => h.below k); (focus rfl); (focus (intro w6 hR hD hP K hK; replace hK := Lib.hid hK; obtain ⟨ev, hsz, tv', hS, _⟩ : vals 4 = .bool (h.prepare x).2 ∧ w.heap.size ≤ w6.heap.size ∧ ∃ tv', ShardAt Q w6 s l a b m t tv' (h.prepare x).1 ∧ (tv'.ownBlock = tv.ownBlock ∨ ∀ g, tv'.ownBlock = some g → w.heap.size ≤ g) := hD 4 (by kernel_rfl); have HX := Lib.hid (And.intro hS hsz); simp only [ev] at hK ⊢; clear hD hP hR hS hsz ev; go_simp; refine (answered_any HX.out.1 (HS.out) 4 _ _).mono ?_; rintro e w7 ⟨⟨v', rfl, ho⟩, hb⟩; refine hK.out _ _ hb ?_; have := MsgRow.of_ans ho HX.out.2; rwa [ans_me HME.out] at this)); simp only [Act.put, List.setIfInBounds_toArray, List.set_cons_zero, List.set_cons_succ, Nat.reduceAdd, List.cons_append, List.nil_append])
    (apply Se.pas_r (fun v w' => MsgRow w.heap.size w' v (h.ans x 4 (h.prepare x).2 true)) (fun _ _ h => Mod.of_below h) rfl (fun v w1 w2 h k => h.below k); (focus rfl); (focus (intro w6 hR hD hP K hK; replace hK := Lib.hid hK; have h5 : MsgRow w.heap.size w6 (vals 5) (h.ans x 4 (h.prepare x).2 true) := hD 5 (by kernel_rfl); have HX := Lib.hid h5; clear hD hP hR h5; go_simp; exact hK.out _ _ (Below.refl _ _) HX.out)); simp only [Act.put, List.setIfInBounds_toArray, List.set_cons_zero, List.set_cons_succ, Nat.reduceAdd, List.cons_append, List.nil_append])
    refine Se.pas_ends ?_ ?_ fun w5 hR hp _ => ?_
    · simp only [Se.AllK, true_and, and_true, true_or, or_true, Nat.reduceAdd]
      exact ⟨.inr (.inl (by kernel_rfl)), .inr (.inl (by kernel_rfl))⟩
    · simp only [Se.AllK, true_and, and_true, Nat.reduceAdd]
      intro e he
      simp only [List.mem_cons, List.not_mem_nil, or_false] at he
      subst he
      exact .inl rfl
    have h4 : vals 4 = .bool (h.prepare x).2 ∧ w.heap.size ≤ w5.heap.size ∧ ∃ tv', ShardAt Q w5 s l a b m t tv' (h.prepare x).1 ∧ (tv'.ownBlock = tv.ownBlock ∨ ∀ g, tv'.ownBlock = some g → w.heap.size ≤ g) := hp 4 (by simp)
    have h6 : MsgRow w.heap.size w5 (vals 6) (h.ans x 4 (h.prepare x).2 true) := hp 6 (by simp)
    have HZ := Lib.hid (And.intro h4 (And.intro h6 (Mod.trans (Mod.of_below HB.out.drew) hR)))
    clear h4 h6 hp hR
    go_wp2
    go_ret
    rw [HKH.out]
    obtain ⟨⟨-, -, tv', hS, hr'⟩, ho, hm⟩ := HZ.out
    exact ⟨⟨_, rfl, ho⟩, tv', hS, hm, hr'⟩
  have n3 : (kd == 3) = false := beq_eq_false_iff_ne.2 c3
  by_cases c5 : kd = 5
  · have q5 : (kd == 5) = true := by rw [c5]; rfl
    have HKH := Lib.hid (HKG.out.trans ((if_neg c1).trans ((if_neg c3).trans (if_pos c5))))
    have HME := Lib.hid (me_decide h x)
    clear c1 c3 c5
    go_upto_region 7 with fail
    refine' Se.wp_region_pass (fun w w' => Below w.heap.size w w') (SMod a b m t tv) 7 (by kernel_rfl) (by kernel_rfl) (by kernel_rfl) (by kernel_rfl) (by kernel_rfl) (by kernel_rfl)
      (fun w => Mod.refl _ w) (fun h k => Mod.trans h k) [(fun w6 => ShardAt Q w6 s l a b m t tv h ∧ Tabs w6 ∧ Tops w6 ∧ MsgV Q w6 (.agg #[.int .i64 kd, .int .i64 x.src, .int .i64 x.dst, .int .i64 g, .slice pa pn pc, .slice ea en ec, .bool x.yes]) x ∧ w.heap.size ≤ w6.heap.size, 4)] [] ?_ ?_ (by simp) (fun vals => ?_)
    case refine'_2 =>
      simp only [List.forall_mem_cons]
      exact ⟨⟨HH.out.1.below HB.out.drew, HH.out.2.1.below HB.out.drew, HH.out.2.2.1.below HB.out.drew, HM.out.below HB.out.drew, HB.out.size⟩, by simp⟩
    case refine'_3 =>
      simp only [List.forall_mem_cons]
      exact ⟨fun w1 w2 k h => ⟨h.1.below k, h.2.1.below k, h.2.2.1.below k, h.2.2.2.1.below k, Nat.le_trans h.2.2.2.2 k.size⟩, by simp⟩
    rotate_left
    simp only [List.take_succ_cons, List.take_zero, List.drop_succ_cons, List.drop_zero]
    iterate 4 (apply Se.pas_x (fun _ _ h => Mod.of_below h) rfl; (focus rfl); (focus (intro w6 hR hD hP K hK; replace hK := Lib.hid hK; obtain ⟨e0, e1, e2, e3, e4, e5, e6⟩ := cells7 (HF.out w6 hR); clear hR hD hP; go_simp; exact hK.out _ (Below.refl _ _))); simp only [Act.put, List.setIfInBounds_toArray, List.set_cons_zero, List.set_cons_succ, Nat.reduceAdd, List.cons_append, List.nil_append])
    (apply Se.pas_s (SMod a b m t tv) (fun v w' => v = .bool (h.decide x).2 ∧ w.heap.size ≤ w'.heap.size ∧ ∃ tv', ShardAt Q w' s l a b m t tv' (h.decide x).1 ∧ (tv'.ownBlock = tv.ownBlock ∨ ∀ g, tv'.ownBlock = some g → w.heap.size ≤ g)) (fun _ _ h => h) rfl (fun v w1 w2 h k => ⟨h.1, Nat.le_trans h.2.1 k.size, by obtain ⟨tv', h1, h2⟩ := h.2.2; exact ⟨tv', h1.below k, h2⟩⟩); (focus rfl); (focus (intro w6 hR hD hP K hK; replace hK := Lib.hid hK; have hx := hP _ (List.mem_cons_self ..) (.inl rfl); have HX := Lib.hid hx; clear hD hP hR hx; go_simp; refine (decide_any HX.out.1 HX.out.2.1 HX.out.2.2.2.1 g HXG.out hg (by omega)).mono ?_; rintro e w7 ⟨rfl, tv', hS, hDi⟩; refine hK.out _ _ hDi.mod ⟨rfl, Nat.le_trans HX.out.2.2.2.2 hDi.mod.size, tv', hS, hDi.row.imp id fun e g hg => Nat.le_trans HX.out.2.2.2.2 (e g hg)⟩)); simp only [Act.put, List.setIfInBounds_toArray, List.set_cons_zero, List.set_cons_succ, Nat.reduceAdd, List.cons_append, List.nil_append])
    (apply Se.pas_r (fun v w' => MsgRow w.heap.size w' v (h.ans x 6 false (h.decide x).2)) (fun _ _ h => Mod.of_below h) rfl (fun v w1 w2 h k => h.below k); (focus rfl); (focus (intro w6 hR hD hP K hK; replace hK := Lib.hid hK; obtain ⟨ev, hsz, tv', hS, _⟩ : vals 4 = .bool (h.decide x).2 ∧ w.heap.size ≤ w6.heap.size ∧ ∃ tv', ShardAt Q w6 s l a b m t tv' (h.decide x).1 ∧ (tv'.ownBlock = tv.ownBlock ∨ ∀ g, tv'.ownBlock = some g → w.heap.size ≤ g) := hD 4 (by kernel_rfl); have HX := Lib.hid (And.intro hS hsz); simp only [ev] at hK ⊢; clear hD hP hR hS hsz ev; go_simp; refine (answered_any HX.out.1 (HS.out) 6 _ _).mono ?_; rintro e w7 ⟨⟨v', rfl, ho⟩, hb⟩; refine hK.out _ _ hb ?_; have := MsgRow.of_ans ho HX.out.2; rwa [ans_me HME.out] at this)); simp only [Act.put, List.setIfInBounds_toArray, List.set_cons_zero, List.set_cons_succ, Nat.reduceAdd, List.cons_append, List.nil_append])
    (apply Se.pas_r (fun v w' => MsgRow w.heap.size w' v (h.ans x 6 false (h.decide x).2)) (fun _ _ h => Mod.of_below h) rfl (fun v w1 w2 h k => h.below k); (focus rfl); (focus (intro w6 hR hD hP K hK; replace hK := Lib.hid hK; have h5 : MsgRow w.heap.size w6 (vals 5) (h.ans x 6 false (h.decide x).2) := hD 5 (by kernel_rfl); have HX := Lib.hid h5; clear hD hP hR h5; go_simp; exact hK.out _ _ (Below.refl _ _) HX.out)); simp only [Act.put, List.setIfInBounds_toArray, List.set_cons_zero, List.set_cons_succ, Nat.reduceAdd, List.cons_append, List.nil_append])
    refine Se.pas_ends ?_ ?_ fun w5 hR hp _ => ?_
    · simp only [Se.AllK, true_and, and_true, true_or, or_true, Nat.reduceAdd]
      exact ⟨.inr (.inl (by kernel_rfl)), .inr (.inl (by kernel_rfl))⟩
    · simp only [Se.AllK, true_and, and_true, Nat.reduceAdd]
      intro e he
      simp only [List.mem_cons, List.not_mem_nil, or_false] at he
      subst he
      exact .inl rfl
    have h4 : vals 4 = .bool (h.decide x).2 ∧ w.heap.size ≤ w5.heap.size ∧ ∃ tv', ShardAt Q w5 s l a b m t tv' (h.decide x).1 ∧ (tv'.ownBlock = tv.ownBlock ∨ ∀ g, tv'.ownBlock = some g → w.heap.size ≤ g) := hp 4 (by simp)
    have h6 : MsgRow w.heap.size w5 (vals 6) (h.ans x 6 false (h.decide x).2) := hp 6 (by simp)
    have HZ := Lib.hid (And.intro h4 (And.intro h6 (Mod.trans (Mod.of_below HB.out.drew) hR)))
    clear h4 h6 hp hR
    go_wp2
    go_ret
    rw [HKH.out]
    obtain ⟨⟨-, -, tv', hS, hr'⟩, ho, hm⟩ := HZ.out
    exact ⟨⟨_, rfl, ho⟩, tv', hS, hm, hr'⟩
  have n5 : (kd == 5) = false := beq_eq_false_iff_ne.2 c5
  by_cases c7 : kd = 7
  · have q7 : (kd == 7) = true := by rw [c7]; rfl
    have HKH := Lib.hid (HKG.out.trans ((if_neg c1).trans ((if_neg c3).trans ((if_neg c5).trans (if_pos c7)))))
    have HME := Lib.hid (me_ask h x)
    clear c1 c3 c5 c7
    go_wp2_with fail
    refine (ask_any (HH.out.1.below HB.out) (HH.out.2.1.below HB.out) (HM.out.below HB.out) g HXG.out hg (by omega)).mono ?_
    rintro e w2 ⟨rfl, tv', hS, hD⟩
    have HZ1 := Lib.hid (hD.mod.block' HZ1.out fun e => Nat.lt_irrefl _ (HH.out.1.old _ e))
    obtain ⟨k0, k1, k2, k3, k4, k5, k6⟩ := cells7 HZ1.out
    have HSD := Lib.hid (And.intro hS ((Did.of_below HB.out).trans hD))
    clear hS hD
    go_wp2_with fail
    refine (answered_any HSD.out.1 HS.out 8 _ _).mono ?_
    rintro e w3 ⟨⟨v', rfl, ho⟩, hb⟩
    have HO := Lib.hid (And.intro ho hb)
    clear ho hb
    go_wp2
    go_ret
    rw [HKH.out]
    refine ⟨⟨_, rfl, ?_⟩, tv', HSD.out.1.below HO.out.2, HSD.out.2.trans (.of_below HO.out.2)⟩
    have := MsgRow.of_ans HO.out.1 HSD.out.2.mod.size
    rwa [ans_me HME.out] at this
  have n7 : (kd == 7) = false := beq_eq_false_iff_ne.2 c7
  by_cases c8 : kd = 8
  · have q8 : (kd == 8) = true := by rw [c8]; rfl
    have HKH := Lib.hid (HKG.out.trans ((if_neg c1).trans ((if_neg c3).trans ((if_neg c5).trans ((if_neg c7).trans (if_pos c8))))))
    clear c1 c3 c5 c7 c8
    go_wp2_with fail
    refine (told_any' (HH.out.1.below HB.out) (HH.out.2.1.below HB.out) (HM.out.below HB.out) g HXG.out hg (by omega)).mono ?_
    rintro e w2 ⟨rfl, tv', hS, hD⟩
    have HSD := Lib.hid (And.intro hS ((Did.of_below HB.out).trans hD))
    clear hS hD
    go_wp2
    go_ret
    rw [HKH.out]
    exact ⟨⟨_, rfl, MsgRow.nil _ _⟩, tv', HSD.out.1, HSD.out.2⟩
  have n8 : (kd == 8) = false := beq_eq_false_iff_ne.2 c8
  by_cases c9 : kd = 9
  · have q9 : (kd == 9) = true := by rw [c9]; rfl
    have HKH := Lib.hid (HKG.out.trans ((if_neg c1).trans ((if_neg c3).trans ((if_neg c5).trans ((if_neg c7).trans ((if_neg c8).trans (if_pos c9)))))))
    have HME := Lib.hid (me_free h x.gang)
    clear c1 c3 c5 c7 c8 c9
    go_upto_region 14 with fail
    refine' Se.wp_region_pass (fun w w' => Below w.heap.size w w') (SMod a b m t tv) 8 (by kernel_rfl) (by kernel_rfl) (by kernel_rfl) (by kernel_rfl) (by kernel_rfl) (by kernel_rfl)
      (fun w => Mod.refl _ w) (fun h k => Mod.trans h k) [(fun w6 => ShardAt Q w6 s l a b m t tv h ∧ Tabs w6 ∧ Tops w6 ∧ MsgV Q w6 (.agg #[.int .i64 kd, .int .i64 x.src, .int .i64 x.dst, .int .i64 g, .slice pa pn pc, .slice ea en ec, .bool x.yes]) x ∧ w.heap.size ≤ w6.heap.size, 5)] [] ?_ ?_ (by simp) (fun vals => ?_)
    case refine'_2 =>
      simp only [List.forall_mem_cons]
      exact ⟨⟨HH.out.1.below HB.out.drew, HH.out.2.1.below HB.out.drew, HH.out.2.2.1.below HB.out.drew, HM.out.below HB.out.drew, HB.out.size⟩, by simp⟩
    case refine'_3 =>
      simp only [List.forall_mem_cons]
      exact ⟨fun w1 w2 k h => ⟨h.1.below k, h.2.1.below k, h.2.2.1.below k, h.2.2.2.1.below k, Nat.le_trans h.2.2.2.2 k.size⟩, by simp⟩
    rotate_left
    simp only [List.take_succ_cons, List.take_zero, List.drop_succ_cons, List.drop_zero]
    iterate 5 (apply Se.pas_x (fun _ _ h => Mod.of_below h) rfl; (focus rfl); (focus (intro w6 hR hD hP K hK; replace hK := Lib.hid hK; obtain ⟨e0, e1, e2, e3, e4, e5, e6⟩ := cells7 (HF.out w6 hR); clear hR hD hP; go_simp; exact hK.out _ (Below.refl _ _))); simp only [Act.put, List.setIfInBounds_toArray, List.set_cons_zero, List.set_cons_succ, Nat.reduceAdd, List.cons_append, List.nil_append])
    (apply Se.pas_s (SMod a b m t tv) (fun v w' => v = .bool (h.free x.gang).2 ∧ w.heap.size ≤ w'.heap.size ∧ ∃ tv', ShardAt Q w' s l a b m t tv' (h.free x.gang).1 ∧ (tv'.ownBlock = tv.ownBlock ∨ ∀ g, tv'.ownBlock = some g → w.heap.size ≤ g)) (fun _ _ h => h) rfl (fun v w1 w2 h k => ⟨h.1, Nat.le_trans h.2.1 k.size, by obtain ⟨tv', h1, h2⟩ := h.2.2; exact ⟨tv', h1.below k, h2⟩⟩); (focus rfl); (focus (intro w6 hR hD hP K hK; replace hK := Lib.hid hK; have hx := hP _ (List.mem_cons_self ..) (.inl rfl); have HX := Lib.hid hx; clear hD hP hR hx; go_simp; refine (free_is HX.out.1 HX.out.2.1 g HXG.out hg (by omega)).mono ?_; rintro e w7 ⟨rfl, tv', hS, hDi⟩; refine hK.out _ _ hDi.mod ⟨rfl, Nat.le_trans HX.out.2.2.2.2 hDi.mod.size, tv', hS, hDi.row.imp id fun e g hg => Nat.le_trans HX.out.2.2.2.2 (e g hg)⟩)); simp only [Act.put, List.setIfInBounds_toArray, List.set_cons_zero, List.set_cons_succ, Nat.reduceAdd, List.cons_append, List.nil_append])
    (apply Se.pas_r (fun v w' => MsgRow w.heap.size w' v (h.ans x 10 false (h.free x.gang).2)) (fun _ _ h => Mod.of_below h) rfl (fun v w1 w2 h k => h.below k); (focus rfl); (focus (intro w6 hR hD hP K hK; replace hK := Lib.hid hK; obtain ⟨ev, hsz, tv', hS, _⟩ : vals 5 = .bool (h.free x.gang).2 ∧ w.heap.size ≤ w6.heap.size ∧ ∃ tv', ShardAt Q w6 s l a b m t tv' (h.free x.gang).1 ∧ (tv'.ownBlock = tv.ownBlock ∨ ∀ g, tv'.ownBlock = some g → w.heap.size ≤ g) := hD 5 (by kernel_rfl); have HX := Lib.hid (And.intro hS hsz); simp only [ev] at hK ⊢; clear hD hP hR hS hsz ev; go_simp; refine (answered_any HX.out.1 (HS.out) 10 _ _).mono ?_; rintro e w7 ⟨⟨v', rfl, ho⟩, hb⟩; refine hK.out _ _ hb ?_; have := MsgRow.of_ans ho HX.out.2; rwa [ans_me HME.out] at this)); simp only [Act.put, List.setIfInBounds_toArray, List.set_cons_zero, List.set_cons_succ, Nat.reduceAdd, List.cons_append, List.nil_append])
    (apply Se.pas_r (fun v w' => MsgRow w.heap.size w' v (h.ans x 10 false (h.free x.gang).2)) (fun _ _ h => Mod.of_below h) rfl (fun v w1 w2 h k => h.below k); (focus rfl); (focus (intro w6 hR hD hP K hK; replace hK := Lib.hid hK; have h5 : MsgRow w.heap.size w6 (vals 6) (h.ans x 10 false (h.free x.gang).2) := hD 6 (by kernel_rfl); have HX := Lib.hid h5; clear hD hP hR h5; go_simp; exact hK.out _ _ (Below.refl _ _) HX.out)); simp only [Act.put, List.setIfInBounds_toArray, List.set_cons_zero, List.set_cons_succ, Nat.reduceAdd, List.cons_append, List.nil_append])
    refine Se.pas_ends ?_ ?_ fun w5 hR hp _ => ?_
    · simp only [Se.AllK, true_and, and_true, true_or, or_true, Nat.reduceAdd]
      exact ⟨.inr (.inl (by kernel_rfl)), .inr (.inl (by kernel_rfl))⟩
    · simp only [Se.AllK, true_and, and_true, Nat.reduceAdd]
      intro e he
      simp only [List.mem_cons, List.not_mem_nil, or_false] at he
      subst he
      exact .inl rfl
    have h4 : vals 5 = .bool (h.free x.gang).2 ∧ w.heap.size ≤ w5.heap.size ∧ ∃ tv', ShardAt Q w5 s l a b m t tv' (h.free x.gang).1 ∧ (tv'.ownBlock = tv.ownBlock ∨ ∀ g, tv'.ownBlock = some g → w.heap.size ≤ g) := hp 5 (by simp)
    have h6 : MsgRow w.heap.size w5 (vals 7) (h.ans x 10 false (h.free x.gang).2) := hp 7 (by simp)
    have HZ := Lib.hid (And.intro h4 (And.intro h6 (Mod.trans (Mod.of_below HB.out.drew) hR)))
    clear h4 h6 hp hR
    go_wp2
    go_ret
    rw [HKH.out]
    obtain ⟨⟨-, -, tv', hS, hr'⟩, ho, hm⟩ := HZ.out
    exact ⟨⟨_, rfl, ho⟩, tv', hS, hm, hr'⟩
  have n9 : (kd == 9) = false := beq_eq_false_iff_ne.2 c9
  have HKH := Lib.hid (HKG.out.trans ((if_neg c1).trans ((if_neg c3).trans ((if_neg c5).trans ((if_neg c7).trans ((if_neg c8).trans (if_neg c9)))))))
  clear c1 c3 c5 c7 c8 c9
  go_wp2
  go_ret
  rw [HKH.out]
  exact ⟨⟨_, rfl, MsgRow.nil _ _⟩, tv, HH.out.1.below HB.out, .of_below HB.out⟩
end Go.Proofs.YtofofjfmhaggmaaGreatDoor
