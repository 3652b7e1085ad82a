/- A gang bound by a shard. -/
import Derived.Test.YtofofjfmhaggmaaGreatDoorWi
set_option linter.unusedVariables false
set_option linter.unusedSimpArgs false
namespace Go.Proofs.YtofofjfmhaggmaaGreatDoor
open Go.RowKit

def isPrep : Option StL → Bool
  | some (.prepared _ _) => true
  | _ => false
/-- A gang's value in the map. -/
def OptV (Q : Nat → Prop) (w : World) (v : Value) : Option StL → Prop
  | none => v = .nilIface
  | some s => StV Q w v s
theorem ShardAt.look {Q : Nat → Prop} {w : World} {s l a b m t : Nat} {tv : Value} {h : ShL} (H : ShardAt Q w s l a b m t tv h) (g : Int) : ∃ v, (∀ w', w'.heap[m]? = w.heap[m]? → (Instr.lookup 92 (.map (some m)) (.int .i64 g) false).run Tryz.prog w' = .ok v w') ∧ OptV Q w v (h.st g) := by
  obtain ⟨v, h1, h2⟩ := H.gangs.look g
  refine ⟨v, h1, ?_⟩
  unfold ShL.st
  cases hk : getK h.gangs g with
  | none => rw [hk] at h2; exact h2
  | some s => rw [hk] at h2; exact h2
theorem ta_prep {Q : Nat → Prop} {w : World} {v : Value} {so : Option StL} (h : OptV Q w v so) : ∃ (x : Value) (y : Int), (∃ a n c, x = .slice a n c) ∧ (∀ ps n, so = some (.prepared ps n) → y = n ∧ Rq Q w 3 1 x ps.length (ps.map fun n : Nat => Value.int .i64 n)) ∧ ∀ w1, (Instr.typeAssert v 20 98 true).run Tryz.prog w1 = .ok (.tuple #[.agg #[x, .int .i64 y], .bool (isPrep so)]) w1 := by
  cases so with
  | none =>
    obtain rfl := h
    exact ⟨.slice none 0 0, 0, ⟨_, _, _, rfl⟩, fun _ _ h => (nomatch h), fun _ => by kernel_rfl⟩
  | some st =>
    cases st with
    | prepared ps age =>
      obtain ⟨e, rfl, h2⟩ := h
      obtain ⟨a, n, c, rfl⟩ := own_slice h2.1
      exact ⟨_, age, ⟨_, _, _, rfl⟩, fun ps' n' h => by injection h with h; injection h with h3 h4; subst h3 h4; exact ⟨rfl, h2⟩, fun _ => by kernel_rfl⟩
    | held n =>
      obtain rfl := h
      exact ⟨.slice none 0 0, 0, ⟨_, _, _, rfl⟩, fun _ _ h => (nomatch h), fun _ => by kernel_rfl⟩
    | bound =>
      obtain rfl := h
      exact ⟨.slice none 0 0, 0, ⟨_, _, _, rfl⟩, fun _ _ h => (nomatch h), fun _ => by kernel_rfl⟩
    | aborted =>
      obtain rfl := h
      exact ⟨.slice none 0 0, 0, ⟨_, _, _, rfl⟩, fun _ _ h => (nomatch h), fun _ => by kernel_rfl⟩
    | freed =>
      obtain rfl := h
      exact ⟨.slice none 0 0, 0, ⟨_, _, _, rfl⟩, fun _ _ h => (nomatch h), fun _ => by kernel_rfl⟩
theorem commit_not {h : ShL} {g : Int} (k : isPrep (h.st g) = false) : h.commit g = h := by
  unfold ShL.commit
  cases hs : h.st g with
  | none => rfl
  | some st =>
    rw [hs] at k
    cases st with
    | prepared ps n => cases k
    | _ => rfl
theorem commit_yes {h : ShL} {g : Int} (k : isPrep (h.st g) = true) : h.commit g = (h.force (recG 4 g)).set g .bound := by
  unfold ShL.commit
  cases hs : h.st g with
  | none => rw [hs] at k; cases k
  | some st =>
    rw [hs] at k
    cases st with
    | prepared ps n => rfl
    | _ => cases k
set_option maxRecDepth 100000 in
set_option maxHeartbeats 1000000 in
theorem commit_any {Q : Nat → Prop} {w : World} {s l a b m t : Nat} {tv : Value} {h : ShL} (H : ShardAt Q w s l a b m t tv h) (ht : Tabs w) (g : Nat) (hg : 1 ≤ g ∧ g ≤ 999999) (hr : h.recs.length ≤ 1000) :
    Calls Tryz.prog 71 #[.pointer (some ⟨s, 0, none⟩), .int .i64 g] w fun e w' => e = .returned (.tuple #[]) ∧ ShPost Q w s l a b m t tv (h.commit g) w' := by
  have HH := Lib.hid (And.intro H ht)
  have e0 := cell_of_block H.z 4 (.map (some m)) rfl
  obtain ⟨v, hl, hv⟩ := H.look g
  have hlk := hl w rfl
  obtain ⟨x, y, ⟨xa, xn, xc, rfl⟩, _, hta⟩ := ta_prep hv
  obtain ⟨q, hq⟩ : ∃ q, isPrep (h.st g) = q := ⟨_, rfl⟩
  rw [hq] at hta
  have HQ := Lib.hid hq
  clear H ht hl hv hq
  go_enter Tryz.func71, Tryz.ntmps71
  cases q with
  | false =>
    go_wp2
    go_end0
    rw [commit_not HQ.out]
    exact ⟨rfl, tv, HH.out.1.below (below_alloc' (Below.refl _ _) _), .of_below (below_alloc' (Below.refl _ _) _)⟩
  | true =>
    go_wp2_with fail
    have hb1 : Below w.heap.size w (w.alloc (.cells #[.slice xa xn xc, .int .i64 y] 98)) := below_alloc' (Below.refl _ _) _
    generalize World.alloc w _ = w1 at hb1 ⊢
    refine (force_any (HH.out.1.below hb1) (HH.out.2.below hb1) (recV_G (k := 4) (.inl rfl)) (good_recG (.inl rfl) hg) (by simp [recG]) hr).mono ?_
    rintro e w3 ⟨rfl, tv1, hS, hD⟩
    have e1 := cell_of_block hS.z 4 (.map (some m)) rfl
    obtain ⟨w2, hr2, hS2, hD2⟩ := hS.put g (sv := .iface 100 (.agg #[])) (st := .bound) rfl
    have HS := Lib.hid (And.intro hS2 (((Did.of_below hb1).trans hD).trans hD2))
    clear hS hD hS2 hD2 e0 hb1
    go_wp2_with fail
    go_end0
    rw [commit_yes HQ.out]
    exact ⟨rfl, tv1, HS.out.1, HS.out.2⟩
end Go.Proofs.YtofofjfmhaggmaaGreatDoor
/-! An answer told to a shard. -/
set_option linter.unusedVariables false
set_option linter.unusedSimpArgs false
namespace Go.Proofs.YtofofjfmhaggmaaGreatDoor
open Go.RowKit

/-- A message as a value. -/
def MsgV (Q : Nat → Prop) (w : World) (v : Value) (x : MsgL) : Prop :=
  ∃ pa pn pc ea en ec, v = .agg #[.int .i64 x.kind, .int .i64 x.src, .int .i64 x.dst, .int .i64 x.gang, .slice pa pn pc, .slice ea en ec, .bool x.yes] ∧ PodsQ Q w (.slice pa pn pc) x.pods ∧ Rq Q w 3 1 (.slice ea en ec) x.peers.length (x.peers.map fun n : Nat => Value.int .i64 n)
theorem MsgV.below {Q : Nat → Prop} {w w' : World} {v : Value} {x : MsgL} (h : MsgV Q w v x) (k : Below w.heap.size w w') : MsgV Q w' v x := by
  obtain ⟨pa, pn, pc, ea, en, ec, h1, h2, h3⟩ := h
  exact ⟨pa, pn, pc, ea, en, ec, h1, h2.below k, h3.below k⟩
set_option maxRecDepth 100000 in
set_option maxHeartbeats 1000000 in
theorem told_any' {Q : Nat → Prop} {w : World} {s l a b m t : Nat} {tv : Value} {h : ShL} (H : ShardAt Q w s l a b m t tv h) (ht : Tabs w) {mv : Value} {x : MsgL} (hm : MsgV Q w mv x) (g : Nat) (hxg : x.gang = g) (hg : 1 ≤ g ∧ g ≤ 999999) (hr : h.recs.length ≤ 1000) :
    Calls Tryz.prog 39 #[.pointer (some ⟨s, 0, none⟩), mv] w fun e w' => e = .returned (.tuple #[]) ∧ ShPost Q w s l a b m t tv (h.told x) w' := by
  obtain ⟨pa, pn, pc, ea, en, ec, rfl, hpods, hpeers⟩ := hm
  have HH := Lib.hid (And.intro H ht)
  obtain ⟨v, hl, hv⟩ := H.look g
  obtain ⟨x0, y0, ⟨xa, xn, xc, rfl⟩, _, hta⟩ := ta_prep hv
  obtain ⟨q, hq⟩ : ∃ q, isPrep (h.st g) = q := ⟨_, rfl⟩
  rw [hq] at hta
  have HQ := Lib.hid hq
  obtain ⟨yes, hy⟩ : ∃ y, x.yes = y := ⟨_, rfl⟩
  have HY := Lib.hid hy
  have HXG := Lib.hid hxg
  have hT : h.told x = if q then (if yes then h.commit g else h.drop g) else h := by
    unfold ShL.told
    rw [hxg, hy]
    cases hs : h.st g with
    | none => rw [hs] at hq; subst hq; rfl
    | some st =>
      rw [hs] at hq
      cases st with
      | prepared ps n => subst hq; rfl
      | _ => subst hq; rfl
  have HT := Lib.hid hT
  rw [hxg, hy]
  clear H ht hv hq hy hxg hT hpods hpeers
  go_enter Tryz.func39, Tryz.ntmps39
  go_upto_region 1 with fail
  have z1 := alloc_at w (.cells #[.int .i64 x.kind, .int .i64 x.src, .int .i64 x.dst, .int .i64 g, .slice pa pn pc, .slice ea en ec, .bool yes] 28)
  have hb1 : Below w.heap.size w (w.alloc (.cells #[.int .i64 x.kind, .int .i64 x.src, .int .i64 x.dst, .int .i64 g, .slice pa pn pc, .slice ea en ec, .bool yes] 28)) := below_alloc' (Below.refl _ _) _
  generalize World.alloc w _ = w1 at z1 hb1 ⊢
  have hf : ∀ w6, Below w1.heap.size w1.drew w6 → w6.heap[w.heap.size]? = some (.cells #[.int .i64 x.kind, .int .i64 x.src, .int .i64 x.dst, .int .i64 g, .slice pa pn pc, .slice ea en ec, .bool yes] 28 (0, 0)) ∧ Below w.heap.size w w6 ∧ (Instr.lookup 92 (.map (some m)) (.int .i64 g) false).run Tryz.prog w6 = .ok v w6 := fun w6 hb => by
    have hb' : Below w1.heap.size w1 w6 := (Below.refl w1.heap.size w1).drew.trans hb
    have hw := below_call hb1 hb'
    exact ⟨block_below z1 hb', hw, hl w6 (hw.block m HH.out.1.gangs.lt)⟩
  have HF := Lib.hid hf
  clear hf z1 hb1 hl
  have HN := Lib.hid (Nat.le_refl w1.heap.size : w1.heap.size ≤ w1.drew.heap.size)
  refine' Par.wp_region_pars (Shp w1.heap.size) 13 (by kernel_rfl) (by kernel_rfl) (by kernel_rfl) (by kernel_rfl) (by kernel_rfl) (by kernel_rfl)
    (fun w => Shp.refl _ w) (fun h k => Shp.trans h k) (fun vals => ?_)
  rotate_left
  simp only [List.take_succ_cons, List.take_zero, List.drop_succ_cons, List.drop_zero]
  iterate 3 (apply Par.par_x rfl; (focus (intro w6 hR hD K hK; replace hK := Lib.hid hK; skip; clear hR hD; go_simp; exact hK.out _ (Shp.refl _ _))); simp only [Act.put, List.setIfInBounds_toArray, List.set_cons_zero, List.set_cons_succ, Nat.reduceAdd, List.cons_append, List.nil_append])
  (apply Par.par_x rfl; (focus (intro w6 hR hD K hK; replace hK := Lib.hid hK; have e0 := cell_of_block (block_below HH.out.1.z (HF.out w6 (hR HN.out).1).2.1) 4 (.map (some m)) rfl; clear hR hD; go_simp; exact hK.out _ (Shp.refl _ _))); simp only [Act.put, List.setIfInBounds_toArray, List.set_cons_zero, List.set_cons_succ, Nat.reduceAdd, List.cons_append, List.nil_append])
  (apply Par.par_x rfl; (focus (intro w6 hR hD K hK; replace hK := Lib.hid hK; skip; clear hR hD; go_simp; exact hK.out _ (Shp.refl _ _))); simp only [Act.put, List.setIfInBounds_toArray, List.set_cons_zero, List.set_cons_succ, Nat.reduceAdd, List.cons_append, List.nil_append])
  (apply Par.par_x rfl; (focus (intro w6 hR hD K hK; replace hK := Lib.hid hK; obtain ⟨e0, e1, e2, e3, e4, e5, e6⟩ := cells7 (HF.out w6 (hR HN.out).1).1; clear hR hD; go_simp; exact hK.out _ (Shp.refl _ _))); simp only [Act.put, List.setIfInBounds_toArray, List.set_cons_zero, List.set_cons_succ, Nat.reduceAdd, List.cons_append, List.nil_append])
  (apply Par.par_x rfl; (focus (intro w6 hR hD K hK; replace hK := Lib.hid hK; have e0 := (HF.out w6 (hR HN.out).1).2.2; clear hR hD; go_simp; exact hK.out _ (Shp.refl _ _))); simp only [Act.put, List.setIfInBounds_toArray, List.set_cons_zero, List.set_cons_succ, Nat.reduceAdd, List.cons_append, List.nil_append])
  iterate 4 (apply Par.par_x rfl; (focus (intro w6 hR hD K hK; replace hK := Lib.hid hK; skip; clear hR hD; go_simp; exact hK.out _ (Shp.refl _ _))); simp only [Act.put, List.setIfInBounds_toArray, List.set_cons_zero, List.set_cons_succ, Nat.reduceAdd, List.cons_append, List.nil_append])
  (apply Par.par_r (fun v w' => New2 w1.heap.size 98 v w' ∧ w1.heap.size ≤ w'.heap.size) rfl (fun v x y h k => ⟨h.1.shp k h.2, Nat.le_trans h.2 (k h.2).1.size⟩); (focus (intro w6 hR hD K hK; replace hK := Lib.hid hK; have hs : w1.heap.size ≤ w6.heap.size := (hR HN.out).1.size; clear hR hD; go_simp; exact hK.out _ _ (Shp.of_below (below_alloc' (Below.refl _ _) _)) ⟨⟨_, _, _, rfl, hs, alloc_at _ _⟩, Nat.le_trans hs (by simp)⟩)); simp only [Act.put, List.setIfInBounds_toArray, List.set_cons_zero, List.set_cons_succ, Nat.reduceAdd, List.cons_append, List.nil_append])
  (apply Par.par_x (e := undef) rfl; (focus (intro w6 hR hD K hK; replace hK := Lib.hid hK; obtain ⟨⟨g', c0, c1, eg, hg', hz⟩, hs⟩ : New2 w1.heap.size 98 (vals 11) w6 ∧ w1.heap.size ≤ w6.heap.size := hD 11 (by kernel_rfl); simp only [eg] at hK ⊢; have k0 := cell_of_block hz 0 _ rfl; have k1 := cell_of_block hz 1 _ rfl; have kf := free_of_block hz; have HZ := Lib.hid (And.intro hz hg'); clear hR hD hz hg' hs eg; go_simp; exact hK.out _ (Shp.of_gb HZ.out.1 (set2 _ _ HZ.out.1) rfl ((Gb.set _ _ _ _).trans (Gb.set _ _ _ _)) HZ.out.2))); simp only [Act.put, List.setIfInBounds_toArray, List.set_cons_zero, List.set_cons_succ, Nat.reduceAdd, List.cons_append, List.nil_append])
  refine Par.par_end fun w2 hR hp => ?_
  have HF2 := Lib.hid (HF.out w2 (hR HN.out).1)
  obtain ⟨e0, e1, e2, e3, e4, e5, e6⟩ := cells7 HF2.out.1
  clear hp hR HF HN
  cases q with
  | false =>
    go_wp2
    refine bodyPost_ret (v := .tuple #[]) (by simp [results, Tryz.results39, go_sem]) rfl ?_
    rw [HT.out]
    exact ⟨rfl, tv, HH.out.1.below HF2.out.2.1, .of_below HF2.out.2.1⟩
  | true =>
    cases yes with
    | true =>
      go_wp2_with fail
      refine (commit_any (HH.out.1.below HF2.out.2.1) (HH.out.2.below HF2.out.2.1) g hg hr).mono ?_
      rintro e w3 ⟨rfl, tv1, hS, hD⟩
      have HS := Lib.hid (And.intro hS ((Did.of_below HF2.out.2.1).trans hD))
      clear hS hD
      go_wp2_with fail
      go_end0
      rw [HT.out]
      exact ⟨rfl, tv1, HS.out.1, HS.out.2⟩
    | false =>
      go_wp2_with fail
      refine (drop_any (HH.out.1.below HF2.out.2.1) (HH.out.2.below HF2.out.2.1) g hg hr).mono ?_
      rintro e w3 ⟨rfl, tv1, hS, hD⟩
      have HS := Lib.hid (And.intro hS ((Did.of_below HF2.out.2.1).trans hD))
      clear hS hD
      go_wp2_with fail
      go_end0
      rw [HT.out]
      exact ⟨rfl, tv1, HS.out.1, HS.out.2⟩
end Go.Proofs.YtofofjfmhaggmaaGreatDoor
/-! A gang freed by a shard. -/
set_option linter.unusedVariables false
set_option linter.unusedSimpArgs false
namespace Go.Proofs.YtofofjfmhaggmaaGreatDoor
open Go.RowKit

def isFreed : Option StL → Bool
  | some .freed => true
  | _ => false
def isBound : Option StL → Bool
  | some .bound => true
  | _ => false
def isHeld : Option StL → Bool
  | some (.held _) => true
  | _ => false
section
set_option maxRecDepth 100000
variable {Q : Nat → Prop} {w : World} {v : Value} {so : Option StL}
theorem ta_freed (h : OptV Q w v so) : ∀ w1, (Instr.typeAssert v 20 102 true).run Tryz.prog w1 = .ok (.tuple #[.agg #[], .bool (isFreed so)]) w1 := by
  cases so with
  | none => obtain rfl := h; exact fun _ => by kernel_rfl
  | some st =>
    cases st with
    | prepared ps age => obtain ⟨e, rfl, h2⟩ := h; exact fun _ => by kernel_rfl
    | _ => obtain rfl := h; exact fun _ => by kernel_rfl
theorem ta_bound (h : OptV Q w v so) : ∀ w1, (Instr.typeAssert v 20 100 true).run Tryz.prog w1 = .ok (.tuple #[.agg #[], .bool (isBound so)]) w1 := by
  cases so with
  | none => obtain rfl := h; exact fun _ => by kernel_rfl
  | some st =>
    cases st with
    | prepared ps age => obtain ⟨e, rfl, h2⟩ := h; exact fun _ => by kernel_rfl
    | _ => obtain rfl := h; exact fun _ => by kernel_rfl
theorem ta_held (h : OptV Q w v so) : ∃ y : Int, (∀ n, so = some (.held n) → y = n) ∧ ∀ w1, (Instr.typeAssert v 20 96 true).run Tryz.prog w1 = .ok (.tuple #[.agg #[.int .i64 y], .bool (isHeld so)]) w1 := by
  cases so with
  | none => obtain rfl := h; exact ⟨0, fun _ h => (nomatch h), fun _ => by kernel_rfl⟩
  | some st =>
    cases st with
    | prepared ps age => obtain ⟨e, rfl, h2⟩ := h; exact ⟨0, fun _ h => (nomatch h), fun _ => by kernel_rfl⟩
    | held n => obtain rfl := h; exact ⟨n, fun n' h => by injection h with h; injection h, fun _ => by kernel_rfl⟩
    | _ => obtain rfl := h; exact ⟨0, fun _ h => (nomatch h), fun _ => by kernel_rfl⟩
end
theorem commit_recs (h : ShL) (g : Int) : (h.commit g).recs.length ≤ h.recs.length + 1 := by
  unfold ShL.commit
  split
  · simp [ShL.set, ShL.force, ShL.write, ShL.sync]
  · omega
set_option maxRecDepth 100000 in
set_option maxHeartbeats 1000000 in
theorem free_any {Q : Nat → Prop} {w : World} {s l a b m t : Nat} {tv : Value} {h : ShL} (H : ShardAt Q w s l a b m t tv h) (ht : Tabs w) (g : Nat) (hg : 1 ≤ g ∧ g ≤ 999999) (hr : h.recs.length ≤ 999) :
    Calls Tryz.prog 40 #[.pointer (some ⟨s, 0, none⟩), .int .i64 g] w fun e w' => e = .returned (.bool (h.free g).2) ∧ ShPost Q w s l a b m t tv (h.free g).1 w' := by
  have HH := Lib.hid (And.intro H ht)
  have hr2 := commit_recs h g
  clear H ht
  go_enter Tryz.func40, Tryz.ntmps40
  go_wp2_with fail
  refine (commit_any HH.out.1 HH.out.2 g hg (by omega)).mono ?_
  rintro e w1 ⟨rfl, tv1, hS, hD⟩
  obtain ⟨h1, hh1⟩ : ∃ h1, h.commit g = h1 := ⟨_, rfl⟩
  rw [hh1] at hS hr2
  have hF : h.free g = match h1.st g with
    | some .freed => (h1, true)
    | some .bound => ((h1.force (recG 6 g)).fin g .freed, true)
    | _ => (h1, false) := by rw [← hh1]; rfl
  have e1 := cell_of_block hS.z 4 (.map (some m)) rfl
  obtain ⟨v, hl, hv⟩ := hS.look g
  have hlk := hl w1 rfl
  have hta := ta_freed hv
  have htb := ta_bound hv
  have HS := Lib.hid (And.intro hS (And.intro hD (HH.out.2)))
  have HB1 := Lib.hid hD
  obtain ⟨so, hso⟩ : ∃ so, h1.st g = so := ⟨_, rfl⟩
  rw [hso] at hta htb hF
  have HF := Lib.hid hF
  have ht1 : Tabs w1 := hD.tabs HH.out.1 HH.out.2
  have HT1 := Lib.hid ht1
  clear hS hD hl hv hF hso hh1 ht1
  by_cases hf : isFreed so = true
  · have hso : so = some .freed := by
      cases so with
      | none => cases hf
      | some st => cases st <;> first | rfl | cases hf
    subst hso
    go_wp2
    go_ret
    rw [HF.out]
    exact ⟨rfl, tv1, HS.out.1, HS.out.2.1⟩
  · have hff : isFreed so = false := by simpa using hf
    rw [hff] at hta
    by_cases hb : isBound so = true
    · have hso : so = some .bound := by
        cases so with
        | none => cases hb
        | some st => cases st <;> first | rfl | cases hb
      subst hso
      clear hf hb hff
      go_wp2_with fail
      refine (force_any HS.out.1 HT1.out (recV_G (k := 6) (.inr (.inr rfl))) (good_recG (.inr (.inr rfl)) hg) (by simp [recG]) (by omega)).mono ?_
      rintro e w3 ⟨rfl, tv2, hS, hD⟩
      have HS2 := Lib.hid (And.intro hS (HS.out.2.1.trans hD))
      clear hS hD
      go_wp2_with fail
      refine (end_any HS2.out.1 g (.iface 102 (.agg #[])) .freed (fun _ => rfl) rfl).mono ?_
      rintro e w4 ⟨rfl, tv3, hS, hD⟩
      have HS3 := Lib.hid (And.intro hS (HS2.out.2.trans hD))
      clear hS hD
      go_wp2
      go_ret
      rw [HF.out]
      exact ⟨rfl, tv3, HS3.out.1, HS3.out.2⟩
    · have hbb : isBound so = false := by simpa using hb
      rw [hbb] at htb
      have hF2 : h.free g = (h1, false) := by
        rw [HF.out]
        cases so with
        | none => rfl
        | some st => cases st <;> first | rfl | exact absurd rfl hf | exact absurd rfl hb
      have HF2 := Lib.hid hF2
      clear hf hb hff hbb hF2
      go_wp2
      go_ret
      rw [HF2.out]
      exact ⟨rfl, tv1, HS.out.1, HS.out.2.1⟩
end Go.Proofs.YtofofjfmhaggmaaGreatDoor
/-! A shard asked for what became of a gang. -/
set_option linter.unusedVariables false
set_option linter.unusedSimpArgs false
namespace Go.Proofs.YtofofjfmhaggmaaGreatDoor
open Go.RowKit

def isAborted : Option StL → Bool
  | some .aborted => true
  | _ => false
section
set_option maxRecDepth 100000
variable {Q : Nat → Prop} {w : World} {v : Value} {so : Option StL}
theorem ta_aborted (h : OptV Q w v so) : ∀ w1, (Instr.typeAssert v 20 101 true).run Tryz.prog w1 = .ok (.tuple #[.agg #[], .bool (isAborted so)]) w1 := by
  cases so with
  | none => obtain rfl := h; exact fun _ => by kernel_rfl
  | some st =>
    cases st with
    | prepared ps age => obtain ⟨e, rfl, h2⟩ := h; exact fun _ => by kernel_rfl
    | _ => obtain rfl := h; exact fun _ => by kernel_rfl
theorem ta_nil (h : OptV Q w v so) : ∀ w1, (binOp .eql 20 v .nilIface).run Tryz.prog w1 = .ok (.bool so.isNone) w1 := by
  cases so with
  | none => obtain rfl := h; exact fun _ => by kernel_rfl
  | some st =>
    cases st with
    | prepared ps age => obtain ⟨e, rfl, h2⟩ := h; exact fun _ => by kernel_rfl
    | _ => obtain rfl := h; exact fun _ => by kernel_rfl
theorem ta_guard (h : OptV Q w v so) (k : Nat) : ∀ w1, (eqGuard .eql 20 (.tmp k) (.const .nilIface) v .nilIface).run Tryz.prog w1 = .ok () w1 := by
  cases so with
  | none => obtain rfl := h; exact fun _ => by kernel_rfl
  | some st =>
    cases st with
    | prepared ps age => obtain ⟨e, rfl, h2⟩ := h; exact fun _ => by kernel_rfl
    | _ => obtain rfl := h; exact fun _ => by kernel_rfl
end
set_option maxRecDepth 100000 in
set_option maxHeartbeats 2000000 in
theorem ask_any {Q : Nat → Prop} {w : World} {s l a b m t : Nat} {tv : Value} {h : ShL} (H : ShardAt Q w s l a b m t tv h) (ht : Tabs w) {mv : Value} {x : MsgL} (hm : MsgV Q w mv x) (g : Nat) (hxg : x.gang = g) (hg : 1 ≤ g ∧ g ≤ 999999) (hr : h.recs.length ≤ 999) :
    Calls Tryz.prog 38 #[.pointer (some ⟨s, 0, none⟩), mv] w fun e w' => e = .returned (.tuple #[.bool (h.ask x).2.1, .bool (h.ask x).2.2]) ∧ ShPost Q w s l a b m t tv (h.ask x).1 w' := by
  obtain ⟨pa, pn, pc, ea, en, ec, rfl, hpods, hpeers⟩ := hm
  have HH := Lib.hid (And.intro H ht)
  obtain ⟨v, hl, hv⟩ := H.look g
  have hta := ta_freed hv
  have htb := ta_bound hv
  have htc := ta_aborted hv
  have htn := ta_nil hv
  have htg := ta_guard hv 12
  obtain ⟨y1, _, hth⟩ := ta_held hv
  obtain ⟨x0, y0, ⟨xa, xn, xc, rfl⟩, _, htp⟩ := ta_prep hv
  have hA : h.ask x = match h.st g with
    | some (.prepared _ _) => (h, false, false)
    | some .bound => (h, true, true)
    | some .freed => (h, true, true)
    | some .aborted => (h, false, true)
    | _ => ((h.drop g).sync, false, true) := by rw [← hxg]; rfl
  obtain ⟨so, hso⟩ : ∃ so, h.st g = so := ⟨_, rfl⟩
  rw [hso] at hta htb htc htn hth htp hA
  have HA := Lib.hid hA
  rw [hxg]
  clear H ht hv hso hA hxg hpods hpeers
  go_enter Tryz.func38, Tryz.ntmps38
  go_upto_region 1 with fail
  have z1 := alloc_at w (.cells #[.int .i64 x.kind, .int .i64 x.src, .int .i64 x.dst, .int .i64 g, .slice pa pn pc, .slice ea en ec, .bool x.yes] 28)
  have hb1 : Below w.heap.size w (w.alloc (.cells #[.int .i64 x.kind, .int .i64 x.src, .int .i64 x.dst, .int .i64 g, .slice pa pn pc, .slice ea en ec, .bool x.yes] 28)) := below_alloc' (Below.refl _ _) _
  generalize World.alloc w _ = w1 at z1 hb1 ⊢
  have hf : ∀ w6, Below w1.heap.size w1.drew w6 → w6.heap[w.heap.size]? = some (.cells #[.int .i64 x.kind, .int .i64 x.src, .int .i64 x.dst, .int .i64 g, .slice pa pn pc, .slice ea en ec, .bool x.yes] 28 (0, 0)) ∧ Below w.heap.size w w6 ∧ (Instr.lookup 92 (.map (some m)) (.int .i64 g) false).run Tryz.prog w6 = .ok v w6 := fun w6 hb => by
    have hb' : Below w1.heap.size w1 w6 := (Below.refl w1.heap.size w1).drew.trans hb
    have hw := below_call hb1 hb'
    exact ⟨block_below z1 hb', hw, hl w6 (hw.block m HH.out.1.gangs.lt)⟩
  have HF := Lib.hid hf
  clear hf z1 hb1 hl
  refine' Par.wp_region_pars (fun w w' => Below w.heap.size w w') 7 (by kernel_rfl) (by kernel_rfl) (by kernel_rfl) (by kernel_rfl) (by kernel_rfl) (by kernel_rfl)
    (fun w => Below.refl _ w) (fun h k => below_call h k) (fun vals => ?_)
  rotate_left
  simp only [List.take_succ_cons, List.take_zero, List.drop_succ_cons, List.drop_zero]
  iterate 3 (apply Par.par_x rfl; (focus (intro w6 hR hD K hK; replace hK := Lib.hid hK; skip; clear hR hD; go_simp; exact hK.out _ (Below.refl _ _))); simp only [Act.put, List.setIfInBounds_toArray, List.set_cons_zero, List.set_cons_succ, Nat.reduceAdd, List.cons_append, List.nil_append])
  (apply Par.par_x rfl; (focus (intro w6 hR hD K hK; replace hK := Lib.hid hK; have e0 := cell_of_block (block_below HH.out.1.z (HF.out w6 hR).2.1) 4 (.map (some m)) rfl; clear hR hD; go_simp; exact hK.out _ (Below.refl _ _))); simp only [Act.put, List.setIfInBounds_toArray, List.set_cons_zero, List.set_cons_succ, Nat.reduceAdd, List.cons_append, List.nil_append])
  (apply Par.par_x rfl; (focus (intro w6 hR hD K hK; replace hK := Lib.hid hK; skip; clear hR hD; go_simp; exact hK.out _ (Below.refl _ _))); simp only [Act.put, List.setIfInBounds_toArray, List.set_cons_zero, List.set_cons_succ, Nat.reduceAdd, List.cons_append, List.nil_append])
  (apply Par.par_x rfl; (focus (intro w6 hR hD K hK; replace hK := Lib.hid hK; obtain ⟨e0, e1, e2, e3, e4, e5, e6⟩ := cells7 (HF.out w6 hR).1; clear hR hD; go_simp; exact hK.out _ (Below.refl _ _))); simp only [Act.put, List.setIfInBounds_toArray, List.set_cons_zero, List.set_cons_succ, Nat.reduceAdd, List.cons_append, List.nil_append])
  (apply Par.par_x rfl; (focus (intro w6 hR hD K hK; replace hK := Lib.hid hK; have e0 := (HF.out w6 hR).2.2; clear hR hD; go_simp; exact hK.out _ (Below.refl _ _))); simp only [Act.put, List.setIfInBounds_toArray, List.set_cons_zero, List.set_cons_succ, Nat.reduceAdd, List.cons_append, List.nil_append])
  refine Par.par_end fun w3 hR hp => ?_
  have HF3 := Lib.hid (HF.out w3 hR)
  have HS3 := Lib.hid (HH.out.1.below HF3.out.2.1)
  obtain ⟨e0, e1, e2, e3, e4, e5, e6⟩ := cells7 HF3.out.1
  clear hp hR HF
  have key : ∀ q : Bool × Bool, h.ask x = (h, q) → (h.ask x).2 = q ∧ ShPost Q w s l a b m t tv (h.ask x).1 w3 := fun q hq => by
    rw [hq]
    exact ⟨rfl, tv, HS3.out, .of_below HF3.out.2.1⟩
  have HK := Lib.hid key
  clear key
  rcases so with _ | st
  case some =>
    rcases st with n | ⟨ps, n⟩ | _ | _ | _
    all_goals simp only [isBound, isFreed, isAborted, isHeld, isPrep, Option.isNone] at hta htb htc htn hth htp
    case prepared =>
      go_wp2
      go_ret2
      obtain ⟨k1, k2⟩ := HK.out (false, false) HA.out
      rw [k1]
      exact ⟨rfl, k2⟩
    case bound =>
      go_wp2
      go_ret2
      obtain ⟨k1, k2⟩ := HK.out (true, true) HA.out
      rw [k1]
      exact ⟨rfl, k2⟩
    case freed =>
      go_wp2
      go_ret2
      obtain ⟨k1, k2⟩ := HK.out (true, true) HA.out
      rw [k1]
      exact ⟨rfl, k2⟩
    case aborted =>
      go_wp2
      go_ret2
      obtain ⟨k1, k2⟩ := HK.out (false, true) HA.out
      rw [k1]
      exact ⟨rfl, k2⟩
    case held =>
      go_wp2_with fail
      refine (drop_any HS3.out (HH.out.2.below HF3.out.2.1) g hg (by omega)).mono ?_
      rintro e w4 ⟨rfl, tv1, hS, hD⟩
      have HS4 := Lib.hid (And.intro hS ((Did.of_below HF3.out.2.1).trans hD))
      have q0 := cell_of_block hS.z 2 (.pointer (some ⟨t, 0, none⟩)) rfl
      clear hS hD
      go_wp2_with fail
      refine (ssync HS4.out.1).mono ?_
      rintro e w5 ⟨rfl, tv2, hS, hD⟩
      have HS5 := Lib.hid (And.intro hS (HS4.out.2.trans hD))
      clear hS hD
      go_wp2
      go_ret2
      rw [HA.out]
      exact ⟨rfl, tv2, HS5.out.1, HS5.out.2⟩
  case none =>
    simp only [isBound, isFreed, isAborted, isHeld, isPrep, Option.isNone] at hta htb htc htn hth htp
    go_wp2_with fail
    refine (drop_any HS3.out (HH.out.2.below HF3.out.2.1) g hg (by omega)).mono ?_
    rintro e w4 ⟨rfl, tv1, hS, hD⟩
    have HS4 := Lib.hid (And.intro hS ((Did.of_below HF3.out.2.1).trans hD))
    have q0 := cell_of_block hS.z 2 (.pointer (some ⟨t, 0, none⟩)) rfl
    clear hS hD
    go_wp2_with fail
    refine (ssync HS4.out.1).mono ?_
    rintro e w5 ⟨rfl, tv2, hS, hD⟩
    have HS5 := Lib.hid (And.intro hS (HS4.out.2.trans hD))
    clear hS hD
    go_wp2
    go_ret2
    rw [HA.out]
    exact ⟨rfl, tv2, HS5.out.1, HS5.out.2⟩
end Go.Proofs.YtofofjfmhaggmaaGreatDoor
