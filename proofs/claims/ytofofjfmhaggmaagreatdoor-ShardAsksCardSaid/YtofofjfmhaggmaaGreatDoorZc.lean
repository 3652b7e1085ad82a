/- What stays true of a shard, plain. -/
import Derived.Test.YtofofjfmhaggmaaGreatDoorWw
set_option linter.unusedVariables false
set_option linter.unusedSimpArgs false
namespace Go.Proofs.YtofofjfmhaggmaaGreatDoor

def hadS : Option StL → Bool
  | some (.held _) => true
  | some (.prepared _ _) => true
  | some .bound => true
  | _ => false
structure PodsB (ps : List PodL) : Prop where
  len : 1 ≤ ps.length ∧ ps.length ≤ 8
  good : ∀ p ∈ ps, nameB p.name = true ∧ p.cpu ≤ 1099511627776 ∧ p.mem ≤ 1099511627776 ∧ setB p.picks = true ∧ setB p.bears = true
  once : (ps.map PodL.name).Nodup
structure MsgB (x : MsgL) : Prop where
  gang : 1 ≤ x.gang ∧ x.gang ≤ 999999
  pods : x.kind = 1 → PodsB x.pods
  peers : x.kind = 3 → peersB x.peers = true
/-- What stays true of a shard that has gone n steps. -/
structure ShL.inv (h : ShL) (n : Nat) : Prop where
  ok : h.led.ok
  had : ∀ g, h.led.get g ≠ [] ↔ hadS (h.st g) = true
  once : (h.gangs.map Prod.fst).Nodup
  ids : ∀ p ∈ h.gangs, 1 ≤ p.1 ∧ p.1 ≤ 999999
  size : h.gangs.length ≤ n
  few : h.led.taken.length ≤ n
  good : ∀ r ∈ h.recs, r.good
  held : ∀ g k, h.st g = some (.held k) → 1 ≤ k ∧ k ≤ 6
  prep : ∀ g ps k, h.st g = some (.prepared ps k) → 0 ≤ k ∧ k ≤ n ∧ peersB ps = true
theorem peers_len {ps : List Nat} (h : peersB ps = true) : ps.length ≤ 4 := by
  simp only [peersB, Bool.and_eq_true, List.all_eq_true, decide_eq_true_eq] at h
  obtain ⟨⟨h1, h2⟩, _⟩ := h
  have key : ∀ (l : List Nat) (a : Nat), (∀ x ∈ l, 1 ≤ x ∧ x ≤ 4) → risesN l = true → (∀ x ∈ l, a ≤ x) → l.length + a ≤ 5 ∨ l = [] := by
    intro l
    induction l with
    | nil => intro a _ _ _; exact .inr rfl
    | cons x l ih =>
      intro a hx hr ha
      left
      have hx1 := hx x List.mem_cons_self
      have ha1 := ha x List.mem_cons_self
      cases l with
      | nil => simp; omega
      | cons y l =>
        simp only [risesN, Bool.and_eq_true, decide_eq_true_eq] at hr
        have hlow : ∀ z ∈ y :: l, x + 1 ≤ z := by
          have : ∀ (l : List Nat) (y : Nat), risesN (y :: l) = true → ∀ z ∈ y :: l, y ≤ z := by
            intro l
            induction l with
            | nil => intro y _ z hz; simp at hz; omega
            | cons u l ih2 =>
              intro y hr z hz
              simp only [risesN, Bool.and_eq_true, decide_eq_true_eq] at hr
              rcases List.mem_cons.1 hz with rfl | hz
              · omega
              · have := ih2 u hr.2 z hz
                omega
          intro z hz
          have := this l y hr.2 z hz
          omega
        rcases ih (x + 1) (fun z hz => hx z (List.mem_cons_of_mem _ hz)) hr.2 hlow with h | h
        · simp only [List.length_cons] at h ⊢; omega
        · cases h
  rcases key ps 1 h1 h2 (fun x hx => (h1 x hx).1) with h | h
  · omega
  · rw [h]; simp
theorem LedL.get_give (L : LedL) (g x : Int) : (L.give g).get x = if x = g then [] else L.get x := by
  unfold LedL.give LedL.errGive
  by_cases h : L.get g = []
  · rw [if_pos h, if_neg (by decide)]
    split
    · rename_i e; rw [e, h]
    · rfl
  · rw [if_neg h, if_pos rfl]
    unfold LedL.get
    rw [getK_delK]
    split <;> rfl
theorem LedL.get_take {L : LedL} {g : Int} {p : List PlaceL} (e : L.errTake g p = 0) (x : Int) : (L.take g p).get x = if x = g then p else L.get x := by
  unfold LedL.take
  rw [if_pos e]
  unfold LedL.get
  rw [getK_set]
  split <;> rfl
theorem setK_len {κ α : Type} [DecidableEq κ] (es : List (κ × α)) (k : κ) (v : α) : (setK es k v).length ≤ es.length + 1 := by
  unfold setK
  split <;> simp
theorem setK_keys {κ α : Type} [DecidableEq κ] (es : List (κ × α)) (k : κ) (v : α) : (setK es k v).map Prod.fst = if hasK es k then es.map Prod.fst else es.map Prod.fst ++ [k] := by
  unfold setK
  split
  · rw [List.map_map]
    apply List.map_congr_left
    intro p _
    simp only [Function.comp]
    split
    · rename_i e; exact e.symm
    · rfl
  · rw [List.map_append]; rfl
theorem setK_nodup {κ α : Type} [DecidableEq κ] {es : List (κ × α)} (h : (es.map Prod.fst).Nodup) (k : κ) (v : α) : ((setK es k v).map Prod.fst).Nodup := by
  rw [setK_keys]
  split
  · exact h
  · rename_i hh
    rw [List.nodup_append]
    refine ⟨h, by simp, fun a ha b hb e => ?_⟩
    simp only [List.mem_singleton] at hb
    subst hb
    subst e
    exact hh (hasK_mem.2 ha)
theorem setK_mem {κ α : Type} [DecidableEq κ] {es : List (κ × α)} {k : κ} {v : α} {p : κ × α} (h : p ∈ setK es k v) : p = (k, v) ∨ p ∈ es := by
  unfold setK at h
  split at h
  · obtain ⟨q, hq, e⟩ := List.mem_map.1 h
    split at e
    · exact .inl e.symm
    · exact .inr (e ▸ hq)
  · rcases List.mem_append.1 h with h | h
    · exact .inr h
    · exact .inl (by simpa using h)
/-! ### Packing -/
theorem candL_mem {L : LedL} {own : List PlaceL} {p : PodL} {ns : List NodeL} {n : NodeL} (h : n ∈ candL L own p ns) : n ∈ ns ∧ whyL p n (ucpu L own n) (umem L own n) (onP n.name own) = 0 := by
  unfold candL at h
  rw [List.mem_filter, decide_eq_true_eq] at h
  exact h
theorem placeL_node {L : LedL} {mode : Int} {own : List PlaceL} {p : PodL} {x : PlaceL} (h : placeL L mode own p = some x) : ∃ n ∈ candL L own p L.sorted, x.node = n.name := by
  unfold placeL at h
  simp only at h
  generalize hb : bestTo _ _ _ = b at h
  have bd := bestTo_bd ((candL L own p L.sorted).map fun n => str n.name) ((candL L own p L.sorted).map (scoreN L mode own p)) (candL L own p L.sorted).length
  rw [hb] at bd
  split at h
  · cases h
  · injection h with h
    subst h
    have hlt : b.toNat < (candL L own p L.sorted).length := by omega
    refine ⟨(candL L own p L.sorted)[b.toNat], List.getElem_mem hlt, ?_⟩
    simp only [List.getD_eq_getElem?_getD, List.getElem?_eq_getElem hlt, Option.getD_some]
theorem allL_names {L : LedL} {mode : Int} : ∀ {ps : List PodL} {own out : List PlaceL}, allL L mode own ps = some out → out.map PlaceL.pod = own.map PlaceL.pod ++ ps.map PodL.name ∧ ∀ x ∈ out, x ∈ own ∨ ∃ n ∈ L.nodes, x.node = n.name
  | [], own, out, h => by
    injection h with h
    subst h
    exact ⟨by simp, fun x hx => .inl hx⟩
  | p :: ps, own, out, h => by
    unfold allL at h
    cases hp : placeL L mode own p with
    | none => rw [hp] at h; cases h
    | some x =>
      rw [hp] at h
      obtain ⟨h1, h2⟩ := allL_names h
      have h3 := placeL_is hp
      refine ⟨by rw [h1]; simp [h3.1], fun y hy => ?_⟩
      rcases h2 y hy with hy | hy
      · rcases List.mem_append.1 hy with hy | hy
        · exact .inl hy
        · obtain rfl := List.mem_singleton.1 hy
          obtain ⟨n, hn, e⟩ := placeL_node hp
          exact .inr ⟨n, (isort_perm _).subset (candL_mem hn).1, e⟩
      · exact .inr hy
theorem allL_places {L : LedL} (hL : L.ok) {mode : Int} {ps : List PodL} {out : List PlaceL} (h : allL L mode [] ps = some out) (hp : PodsB ps) : placesB out := by
  obtain ⟨h1, h2⟩ := allL_is h
  obtain ⟨h3, h4⟩ := allL_names h
  simp only [List.length_nil, Nat.zero_add, List.map_nil, List.nil_append] at h1 h3
  refine ⟨by rw [h1]; exact hp.len.1, by rw [h1]; exact hp.len.2, fun x hx => ?_, by rw [h3]; exact hp.once⟩
  rcases h2 x hx with hx' | ⟨p, hpp, e1, e2, e3⟩
  · cases hx'
  rcases h4 x hx with hx' | ⟨n, hn, e4⟩
  · cases hx'
  have g := hp.good p hpp
  exact ⟨by rw [e1]; exact g.1, by rw [e4]; exact (hL.good n hn).1, by rw [e2]; exact g.2.1, by rw [e3]; exact g.2.2.1⟩
theorem pack_out {L : LedL} {mode : Int} {g : Int} {ps : List PodL} (h : packE L mode g ps = 0) : ∃ out, allL L mode [] ps = some out ∧ L.errTake g out = 0 ∧ packL L mode g ps = L.take g out := by
  have h0 := h
  unfold packE at h
  split at h
  · exact absurd h (by decide)
  split at h
  · exact absurd h (by decide)
  cases ha : allL L mode [] ps with
  | none => rw [ha] at h; simp at h
  | some out =>
    rw [ha] at h
    refine ⟨out, rfl, h, ?_⟩
    unfold packL
    rw [if_pos h0, ha]
theorem podsB_okay {ps : List PodL} (h : PodsB ps) : ∀ p ∈ ps, p.okay := fun p hp => by
  have g := h.good p hp
  have a := setB_few g.2.2.2.1
  have b := setB_few g.2.2.2.2
  exact ⟨g.2.1, g.2.2.1, a.1, b.1⟩
end Go.Proofs.YtofofjfmhaggmaaGreatDoor
/-! What stays true of a shard: its doings, plain. -/
set_option linter.unusedVariables false
set_option linter.unusedSimpArgs false
namespace Go.Proofs.YtofofjfmhaggmaaGreatDoor

section
variable {h : ShL} {n : Nat} {g : Int}
/-- A state's own numbers are as they may be. -/
def stB (n : Nat) : StL → Prop
  | .held k => 1 ≤ k ∧ k ≤ 6
  | .prepared ps k => 0 ≤ k ∧ k ≤ n ∧ peersB ps = true
  | _ => True
theorem ShL.inv.st (H : h.inv n) {s : StL} (e : h.st g = some s) : stB n s := by
  cases s with
  | held k => exact H.held _ _ e
  | prepared ps k => exact H.prep _ _ _ e
  | _ => trivial
theorem ShL.inv.mono (H : h.inv n) {m : Nat} (k : n ≤ m) : h.inv m :=
  ⟨H.ok, H.had, H.once, H.ids, Nat.le_trans H.size k, Nat.le_trans H.few k, H.good, H.held, fun g ps a e => by have := H.prep g ps a e; exact ⟨this.1, by omega, this.2.2⟩⟩
/-- One gang's state is set, its room with it. -/
theorem ShL.inv.put (H : h.inv n) {L : LedL} {s : StL} (hg : 1 ≤ g ∧ g ≤ 999999) (hL : L.ok) (hf : L.taken.length ≤ n + 1) (h1 : ∀ x, x ≠ g → (L.get x ≠ [] ↔ h.led.get x ≠ [])) (h2 : L.get g ≠ [] ↔ hadS (some s) = true) (hs : stB (n + 1) s) : ({ h with led := L }.set g s).inv (n + 1) := by
  have hst : ∀ x, ({ h with led := L }.set g s).st x = if x = g then some s else h.st x := fun x => st_set _ _ _ _
  refine ⟨hL, fun x => ?_, setK_nodup H.once _ _, fun p hp => ?_, Nat.le_trans (setK_len _ _ _) (Nat.succ_le_succ H.size), hf, H.good, fun x k e => ?_, fun x ps k e => ?_⟩
  · rw [hst]
    split
    · rename_i e; subst e; exact h2
    · rename_i e; exact (h1 x e).trans (H.had x)
  · rcases setK_mem hp with rfl | hp
    · exact hg
    · exact H.ids p hp
  · rw [hst] at e
    split at e
    · injection e with e; subst e; exact hs
    · exact H.held x k e
  · rw [hst] at e
    split at e
    · injection e with e; subst e; exact hs
    · have := H.prep x ps k e; exact ⟨this.1, by omega, this.2.2⟩
theorem ShL.inv.recs (H : h.inv n) {rs : List RecL} {k : Nat} (hr : ∀ r ∈ rs, r.good) : ({ h with recs := rs, lasting := k } : ShL).inv n := ⟨H.ok, H.had, H.once, H.ids, H.size, H.few, hr, H.held, H.prep⟩
theorem ShL.inv.write (H : h.inv n) {r : RecL} (hr : r.good) : (h.write r).inv n := H.recs (rs := h.recs ++ [r]) (k := h.lasting) fun x hx => by
  rcases List.mem_append.1 hx with hx | hx
  · exact H.good x hx
  · exact (List.mem_singleton.1 hx) ▸ hr
theorem ShL.inv.force (H : h.inv n) {r : RecL} (hr : r.good) : (h.force r).inv n := (H.write hr).recs (rs := h.recs ++ [r]) (k := _) (H.write hr).good
theorem ShL.inv.set (H : h.inv n) {s : StL} (hg : 1 ≤ g ∧ g ≤ 999999) (h2 : hadS (h.st g) = hadS (some s)) (hs : stB (n + 1) s) : (h.set g s).inv (n + 1) :=
  H.put (L := h.led) hg H.ok (Nat.le_succ_of_le H.few) (fun _ _ => Iff.rfl) (by rw [H.had g, h2]) hs
theorem give_len (L : LedL) (g : Int) : (L.give g).taken.length ≤ L.taken.length := by
  unfold LedL.give
  split
  · exact List.length_filter_le _ _
  · exact Nat.le_refl _
theorem ShL.inv.fin (H : h.inv n) {s : StL} (hg : 1 ≤ g ∧ g ≤ 999999) (h2 : hadS (some s) = false) (hs : stB (n + 1) s) : (h.fin g s).inv (n + 1) :=
  H.put (L := h.led.give g) hg (LedL.give_ok H.ok g) (Nat.le_trans (give_len _ _) (Nat.le_succ_of_le H.few)) (fun x hx => by rw [LedL.get_give, if_neg hx]) (by rw [LedL.get_give, if_pos rfl, h2]; simp) hs
theorem ShL.inv.commit (H : h.inv n) (hg : 1 ≤ g ∧ g ≤ 999999) : (h.commit g).inv (n + 1) := by
  unfold ShL.commit
  split
  · rename_i ps k e
    refine (H.force ?_).set hg ?_ trivial
    · have := good_recG (k := 4) (g := g.toNat) (.inl rfl) (by omega)
      rwa [Int.toNat_of_nonneg (by omega : 0 ≤ g)] at this
    · show hadS (h.st g) = _
      rw [e]; rfl
  · exact H.mono (Nat.le_succ _)
theorem recG_good {k : Nat} (hk : k = 4 ∨ k = 5 ∨ k = 6) (hg : 1 ≤ g ∧ g ≤ 999999) : (recG k g).good := by
  have := good_recG (k := k) (g := g.toNat) hk (by omega)
  rwa [Int.toNat_of_nonneg (by omega : 0 ≤ g)] at this
theorem ShL.inv.drop (H : h.inv n) (hg : 1 ≤ g ∧ g ≤ 999999) : (h.drop g).inv (n + 1) := (H.write (recG_good (.inr (.inl rfl)) hg)).fin hg rfl trivial
theorem ShL.inv.sync (H : h.inv n) : h.sync.inv n := H.recs (rs := h.recs) H.good
theorem LedL.get_some {L : LedL} (h : L.ok) {g : Int} (k : L.get g ≠ []) : placesB (L.get g) := by
  unfold LedL.get at k ⊢
  cases e : getK L.taken g with
  | none => rw [e] at k; exact absurd rfl k
  | some p =>
    unfold getK at e
    rw [Option.map_eq_some_iff] at e
    obtain ⟨t, ht, e⟩ := e
    have := h.some t (List.mem_of_find?_eq_some ht)
    rw [e] at this
    exact this
variable {x : MsgL}
theorem ShL.inv.hold (H : h.inv n) (hx : MsgB x) (h1 : x.kind = 1) : (h.hold x).1.inv (n + 1) := by
  unfold ShL.hold
  split
  · rename_i e
    split
    · rename_i hp
      obtain ⟨out, ho, he, hl⟩ := pack_out hp
      have hpl := allL_places H.ok ho (hx.pods h1)
      rw [hl]
      refine H.put (L := h.led.take x.gang out) hx.gang (LedL.take_ok H.ok _ hpl) ?_ (fun y hy => by rw [LedL.get_take he, if_neg hy]) ?_ ⟨by decide, by decide⟩
      · unfold LedL.take
        rw [if_pos he]
        exact Nat.le_trans (setK_len _ _ _) (Nat.succ_le_succ H.few)
      · rw [LedL.get_take he, if_pos rfl]
        have := hpl.1
        exact ⟨fun _ => rfl, fun _ e => by rw [e] at this; exact absurd this (by decide)⟩
    · exact H.mono (Nat.le_succ _)
  · rename_i k e
    exact H.set hx.gang (by rw [e]; rfl) ⟨by decide, by decide⟩
  · exact H.mono (Nat.le_succ _)
  · exact H.mono (Nat.le_succ _)
theorem ShL.inv.prepare (H : h.inv n) (hx : MsgB x) (h3 : x.kind = 3) : (h.prepare x).1.inv (n + 1) := by
  unfold ShL.prepare
  split
  · exact H.mono (Nat.le_succ _)
  · exact H.mono (Nat.le_succ _)
  · rename_i k e
    have hp : h.led.get x.gang ≠ [] := (H.had x.gang).2 (by rw [e]; rfl)
    refine (H.force ?_).set hx.gang ?_ ⟨Int.le_refl _, by omega, hx.peers h3⟩
    · have := good_recP (g := x.gang.toNat) (ps := x.peers) (ls := h.led.get x.gang) (by have := hx.gang; omega) (hx.peers h3) (LedL.get_some H.ok hp)
      rwa [Int.toNat_of_nonneg (by have := hx.gang; omega : 0 ≤ x.gang)] at this
    · show hadS (h.st x.gang) = _
      rw [e]; rfl
  · exact H.mono (Nat.le_succ _)
theorem ShL.inv.decide (H : h.inv n) (hx : MsgB x) : (h.decide x).1.inv (n + 2) := by
  have H1 : (if x.yes then h.commit x.gang else h).inv (n + 1) := by
    split
    · exact H.commit hx.gang
    · exact H.mono (Nat.le_succ _)
  unfold ShL.decide
  simp only
  generalize (if x.yes then h.commit x.gang else h) = h1 at H1
  have M := H1.mono (Nat.le_succ _)
  split
  · exact M
  · exact M
  · split
    · exact M
    · exact H1.drop hx.gang
  · split
    · exact M
    · exact H1.drop hx.gang
  · exact M
theorem ShL.inv.ask (H : h.inv n) (hx : MsgB x) : (h.ask x).1.inv (n + 1) := by
  have M := H.mono (Nat.le_succ n)
  unfold ShL.ask
  split
  · exact M
  · exact M
  · exact M
  · exact M
  · exact (H.drop hx.gang).sync
theorem ShL.inv.told (H : h.inv n) (hx : MsgB x) : (h.told x).inv (n + 1) := by
  unfold ShL.told
  split
  · split
    · exact H.commit hx.gang
    · exact H.drop hx.gang
  · exact H.mono (Nat.le_succ _)
theorem ShL.inv.free (H : h.inv n) (hg : 1 ≤ g ∧ g ≤ 999999) : (h.free g).1.inv (n + 2) := by
  have H1 := H.commit hg
  unfold ShL.free
  simp only
  generalize h.commit g = h1 at H1
  split
  · exact H1.mono (Nat.le_succ _)
  · exact (H1.force (recG_good (.inr (.inr rfl)) hg)).fin hg rfl trivial
  · exact H1.mono (Nat.le_succ _)
theorem ShL.inv.get (H : h.inv n) (hx : MsgB x) : (h.get x).1.inv (n + 2) := by
  have M1 : n + 1 ≤ n + 2 := by omega
  unfold ShL.get
  split
  · exact (H.hold hx (by assumption)).mono M1
  split
  · exact (H.prepare hx (by assumption)).mono M1
  split
  · exact H.decide hx
  split
  · exact (H.ask hx).mono M1
  split
  · exact (H.told hx).mono M1
  split
  · exact H.free hx.gang
  · exact H.mono (by omega)
theorem ShL.inv.getOk (H : h.inv n) (hx : MsgB x) (hn : n ≤ 1073741824) (hr : h.recs.length ≤ 990) : GetOk h x :=
  ⟨hx.gang, H.ok, Nat.le_trans H.few hn, hr, fun e => ⟨(hx.pods e).len.2, podsB_okay (hx.pods e)⟩, fun e k hk => ⟨hx.peers e, by have := peers_len (hx.peers e); omega, LedL.get_some H.ok ((H.had x.gang).2 (by rw [hk]; rfl))⟩⟩
theorem ShL.inv.node (H : h.inv n) (nd : NodeL) : (h.node nd).inv n := by
  unfold ShL.node
  split
  · rename_i e
    have hok := LedL.put_ok H.ok nd
    have hl : (h.led.put nd).taken = h.led.taken := by unfold LedL.put; split <;> rfl
    have hg : ∀ g, (h.led.put nd).get g = h.led.get g := fun g => by unfold LedL.get; rw [hl]
    have H2 : ({ h with led := h.led.put nd } : ShL).inv n := ⟨hok, fun g => by show (h.led.put nd).get g ≠ [] ↔ _; rw [hg]; exact H.had g, H.once, H.ids, H.size, by show (h.led.put nd).taken.length ≤ n; rw [hl]; exact H.few, H.good, H.held, H.prep⟩
    exact H2.force (errPut_zero e).1
  · exact H
theorem ShL.inv.tickOk (H : h.inv n) (hn : n ≤ 1000000) : TickOk h :=
  ⟨fun g k e => by have := H.held g k e; omega, fun g ps k e => by have := H.prep g ps k e; have := peers_len this.2.2; omega, H.ids, H.once, Nat.le_trans H.size hn⟩
theorem bare_inv (me mode : Int) : (ShL.bare me mode [] 0).inv 0 :=
  ⟨LedL.none_ok, fun g => by simp [ShL.bare, LedL.none, LedL.get, getK, ShL.st, hadS], by simp [ShL.bare], by simp [ShL.bare], by simp [ShL.bare], by simp [ShL.bare, LedL.none], by simp [ShL.bare], fun g k e => by simp [ShL.bare, ShL.st, getK] at e, fun g ps k e => by simp [ShL.bare, ShL.st, getK] at e⟩
end
end Go.Proofs.YtofofjfmhaggmaaGreatDoor
/-! A world of chapter 10's laws without nodes. -/
set_option linter.unusedVariables false
set_option linter.unusedSimpArgs false
namespace Go.Proofs.YtofofjfmhaggmaaGreatDoor
open Go.RowKit

/-- What every call wants of memory: tables, and that the variables of packages lie there. -/
structure Fine (w : World) : Prop where
  tabs : Tabs w
  tops : Tops w
  low : GN ≤ w.heap.size
theorem Fine.below {w w' : World} (h : Fine w) (k : Below w.heap.size w w') : Fine w' := ⟨h.tabs.below k, h.tops.below k, Nat.le_trans h.low k.size⟩
theorem Fine.mod {S : Nat → Prop} {w w' : World} (h : Fine w) (k : Mod S w w') (hS : ∀ g, S g → GN ≤ g) : Fine w' := ⟨h.tabs.mod k hS, h.tops.mod k hS, Nat.le_trans h.low k.size⟩

/-! ### The document's shard of an empty tape -/
set_option maxHeartbeats 1000000 in
set_option maxRecDepth 100000 in
theorem rall_none (w : World) (y : Nat) (k : Int) (h : w.heap[y]? = some (.cells #[.slice none 0 0, .int .i64 k] 75 (0, 0))) : Calls Tryz.prog 58 #[.pointer (some ⟨y, 0, none⟩)] w fun e w' => e = .returned (.slice none 0 0) ∧ w = w' := by
  have e0 := cell_of_block h 0 _ rfl
  go_enter Tryz.func58, Tryz.ntmps58
  go_wp2
  refine wp_loop_rounds 1 ?_
  rw [rounds_succ]
  go_wp2
  go_ret
  exact ⟨rfl, rfl⟩
set_option maxHeartbeats 1000000 in
set_option maxRecDepth 100000 in
theorem rshardNew_none (w : World) (me mode : Int) (y : Nat) (k : Int) (h : w.heap[y]? = some (.cells #[.slice none 0 0, .int .i64 k] 75 (0, 0))) : Calls Tryz.prog 30 #[.int .i64 me, .int .i64 mode, .pointer (some ⟨y, 0, none⟩)] w fun e w' => ∃ x lb, e = .returned (.pointer (some ⟨x, 0, none⟩)) ∧ w.heap.size ≤ x ∧ w.heap.size ≤ lb ∧
    w'.heap[lb]? = some (.cells #[.slice none 0 0, .slice none 0 0] 123 (0, 0)) ∧ w'.heap[x]? = some (.cells #[.int .i64 me, .int .i64 mode, .pointer (some ⟨y, 0, none⟩), .pointer (some ⟨lb, 0, none⟩), .slice none 0 0] 126 (0, 0)) ∧ Below w.heap.size w w' := by
  have H := Lib.hid h
  clear h
  go_enter Tryz.func30, Tryz.ntmps30
  go_wp2_with fail
  have hb2 : Below w.heap.size w ((w.alloc (.cells #[.slice none 0 0, .slice none 0 0] 123)).alloc (.cells #[.int .i64 me, .int .i64 mode, .pointer (some ⟨y, 0, none⟩), .pointer (some ⟨w.heap.size, 0, none⟩), .slice none 0 0] 126)) := below_alloc' (below_alloc' (Below.refl _ _) _) _
  have hl := block_below (alloc_at w (.cells #[.slice none 0 0, .slice none 0 0] 123)) (below_alloc' (Below.refl _ _) (.cells #[.int .i64 me, .int .i64 mode, .pointer (some ⟨y, 0, none⟩), .pointer (some ⟨w.heap.size, 0, none⟩), .slice none 0 0] 126))
  have hx : ((w.alloc (.cells #[.slice none 0 0, .slice none 0 0] 123)).alloc (.cells #[.int .i64 me, .int .i64 mode, .pointer (some ⟨y, 0, none⟩), .pointer (some ⟨w.heap.size, 0, none⟩), .slice none 0 0] 126)).heap[w.heap.size + 1]? = some (.cells #[.int .i64 me, .int .i64 mode, .pointer (some ⟨y, 0, none⟩), .pointer (some ⟨w.heap.size, 0, none⟩), .slice none 0 0] 126 (0, 0)) := alloc_is (by simp) _
  generalize World.alloc _ (.cells #[.int .i64 me, .int .i64 mode, .pointer (some ⟨y, 0, none⟩), .pointer (some ⟨w.heap.size, 0, none⟩), .slice none 0 0] 126) = w2 at hb2 hl hx ⊢
  refine (rall_none w2 y k (block_below H.out hb2)).mono ?_
  rintro e w3 ⟨rfl, rfl⟩
  have HH := Lib.hid (And.intro hb2 (And.intro hl hx))
  clear hb2 hl hx
  go_wp2
  refine wp_loop_rounds 1 ?_
  rw [rounds_succ]
  go_wp2
  go_ret
  exact ⟨_, _, rfl, Nat.le_succ _, Nat.le_refl _, HH.out.2.1, HH.out.2.2, HH.out.1⟩

/-! ### The two -/
/-- A world: a shard and its tape, the document's. -/
structure LW (w : World) (W s l a b m t : Nat) (tv : Value) (h : ShL) (x y : Nat) (M : Int) : Prop where
  box : w.heap[W]? = some (.cells #[.pointer (some ⟨s, 0, none⟩), .pointer (some ⟨t, 0, none⟩), .pointer (some ⟨x, 0, none⟩), .pointer (some ⟨y, 0, none⟩), .int .i64 M] 36 (0, 0))
  sh : ShardAt (Q3 (fun g => g = t) a b m) w s l a b m t tv h
  fine : Fine w
section
variable {w w' : World} {W s l a b m t : Nat} {tv tv' : Value} {h h' : ShL} {x y : Nat} {M : Int}
theorem LW.below (H : LW w W s l a b m t tv h x y M) (k : Below w.heap.size w w') : LW w' W s l a b m t tv h x y M := ⟨block_below H.box k, H.sh.below k, H.fine.below k⟩
theorem LW.old (H : LW w W s l a b m t tv h x y M) : ∀ g, Q3 (fun g => g = t) a b m g → g < w.heap.size := fun g hg => H.sh.old g (by rcases hg with e | e | e | e <;> simp [e])
theorem LW.apart (H : LW w W s l a b m t tv h x y M) : ¬ (W = a ∨ W = b ∨ W = m ∨ W = t ∨ tv.ownBlock = some W) := by
  obtain ⟨cs, h4, _⟩ := H.sh.tape
  obtain ⟨es, e1, _⟩ := H.sh.led.nodes
  obtain ⟨fs, e2, _⟩ := H.sh.led.taken
  obtain ⟨gs, e3, _⟩ := H.sh.gangs
  have hb := H.box
  rintro (e | e | e | e | e)
  · exact mapS_ne e1 hb e
  · exact mapI_ne e2 hb e
  · exact mapI_ne e3 hb e
  · rw [e, h4.z] at hb
    injection hb with hb
    injection hb with _ hb
    exact absurd hb (by decide)
  · exact own_other h4.row hb (by decide) e
/-- The shard has done something. -/
theorem LW.did (H : LW w W s l a b m t tv h x y M) (k : ShPost (Q3 (fun g => g = t) a b m) w s l a b m t tv h' w') : ∃ tv', LW w' W s l a b m t tv' h' x y M ∧ Mod (fun g => g = a ∨ g = b ∨ g = m ∨ g = t ∨ tv.ownBlock = some g) w w' := by
  obtain ⟨tv', hS, hD⟩ := k
  exact ⟨tv', ⟨hD.mod.block' H.box H.apart, hS, H.fine.mod hD.mod H.sh.far⟩, hD.mod⟩
end
end Go.Proofs.YtofofjfmhaggmaaGreatDoor
