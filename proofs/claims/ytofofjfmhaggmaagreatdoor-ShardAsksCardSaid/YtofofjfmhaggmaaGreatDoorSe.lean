/- The rule of Pas, where an operation's value may be told apart from the value of one that surely came ahead of it; what is told of an operation need not stay under those that surely came ahead of it. -/
import Derived.Test.YtofofjfmhaggmaaGreatDoorPar
set_option linter.unusedVariables false
set_option linter.unusedSimpArgs false
namespace Go.Se
open Go Go.Par

/-- What is told of an operation; which worlds it leads to, where that is not the common relation. -/
abbrev Item := Par.Post × Option (World → World → Prop)
def moves (Rd : World → World → Prop) (p : Item) : World → World → Prop := match p.2 with | none => Rd | some S => S
section
variable {P : Program} {ops : Array Oper} {Q : Exit → Act → World → Prop} {F : Act → World → Prop} {Rd R : World → World → Prop} {w0 : World}

/-- What holds as long as number e.2 has not come, for those that surely come ahead of it. -/
def Pre (B : List (List Nat)) (pres : List ((World → Prop) × Nat)) (i : Nat) (w : World) : Prop := ∀ e ∈ pres, (e.2 = i ∨ (B.getD e.2 []).contains i = true) → e.1 w

abbrev Seps := List (Nat × Nat × (Value → Value → Prop))
/-- A post, and what parts the value from older ones. -/
def part (seps : Seps) (vals : Nat → Value) (i : Nat) (p : Par.Post) : Par.Post := .rel fun v w => p.holds v w ∧ ∀ e ∈ seps, e.2.1 = i → e.2.2 (vals e.1) v
def Se (P : Program) (ops : Array Oper) (Q : Exit → Act → World → Prop) (F : Act → World → Prop) (Rd R : World → World → Prop) (w0 : World) (B : List (List Nat)) (pres : List ((World → Prop) × Nat)) (seps : Seps) (vals : Nat → Value) :
    List Oper → Nat → Act → List Item → List Item → Prop
  | [], _, A, done, [] => (∀ (i : Nat) (q : Item) (S : World → World → Prop), done[i]? = some q → q.2 = some S → ∀ (k : Nat) (p : Item), done[k]? = some p → k ≠ i → (B.getD k []).contains i = false → ∀ w w', R w0 w → S w w' → p.1.holds (vals k) w → p.1.holds (vals k) w') ∧
    (∀ (i : Nat) (q : Item) (S : World → World → Prop), done[i]? = some q → q.2 = some S → ∀ e ∈ pres, e.2 ≠ i → ∀ w w', R w0 w → S w w' → e.1 w → e.1 w') ∧
    ∀ w, R w0 w → (∀ j, j < done.length → ((done.map Prod.fst).getD j (Par.Post.rel fun _ _ => True)).holds (vals j) w) → (∀ e ∈ seps, e.2.2 (vals e.1) (vals e.2.1)) → F A w
  | o :: os, i, A, done, p :: ps =>
    (∀ v w w', p.1.holds v w → Rd w w' → p.1.holds v w') ∧ (∀ w w', moves Rd p w w' → R w w') ∧
    (∀ w, R w0 w → Deps B i (done.map Prod.fst) vals w → Pre B pres i w → Step P ops Q (moves Rd p) o A w (part seps vals i p.1)) ∧
    Se P ops Q F Rd R w0 B pres seps vals os (i + 1) (A.put o.dst (p.1.val (vals i))) (done ++ [p]) ps
  | _, _, _, _, _ => False

theorem Se.step {B : List (List Nat)} {pres : List ((World → Prop) × Nat)} {seps : Seps} {vals : Nat → Value} : ∀ {os : List Oper} {i : Nat} {A : Act} {done ps : List Item}, Se P ops Q F Rd R w0 B pres seps vals os i A done ps → done.length = i →
    (∀ k p, ps[k]? = some p → p.1.val (vals (i + k)) = vals (i + k)) →
    os.length = ps.length ∧
    (∀ k o p, os[k]? = some o → ps[k]? = some p → (∀ v w w', p.1.holds v w → Rd w w' → p.1.holds v w') ∧ (∀ w w', moves Rd p w w' → R w w') ∧
      ∀ w, R w0 w → Deps B (i + k) ((done ++ ps.take k).map Prod.fst) vals w → Pre B pres (i + k) w → Step P ops Q (moves Rd p) o (puts vals (os.take k) i A) w (part seps vals (i + k) p.1)) ∧
    (∀ (j : Nat) (q : Item) (S : World → World → Prop), (done ++ ps)[j]? = some q → q.2 = some S → ∀ (k : Nat) (p : Item), (done ++ ps)[k]? = some p → k ≠ j → (B.getD k []).contains j = false → ∀ w w', R w0 w → S w w' → p.1.holds (vals k) w → p.1.holds (vals k) w') ∧
    (∀ (j : Nat) (q : Item) (S : World → World → Prop), (done ++ ps)[j]? = some q → q.2 = some S → ∀ e ∈ pres, e.2 ≠ j → ∀ w w', R w0 w → S w w' → e.1 w → e.1 w') ∧
    (∀ w, R w0 w → (∀ j, j < (done ++ ps).length → (((done ++ ps).map Prod.fst).getD j (Par.Post.rel fun _ _ => True)).holds (vals j) w) → (∀ e ∈ seps, e.2.2 (vals e.1) (vals e.2.1)) → F (puts vals os i A) w) := by
  intro os
  induction os with
  | nil =>
    intro i A done ps h hi hv
    cases ps with
    | nil => exact ⟨rfl, fun k o p hk => by simp at hk, by simpa using h.1, by simpa using h.2.1, by simpa [puts] using h.2.2⟩
    | cons p ps => exact absurd h (by simp [Se])
  | cons o os ih =>
    intro i A done ps h hi hv
    cases ps with
    | nil => exact absurd h (by simp [Se])
    | cons p ps =>
      obtain ⟨hst, hmv, hs, hr⟩ := h
      have hv0 : p.1.val (vals i) = vals i := by simpa using hv 0 p rfl
      rw [hv0] at hr
      obtain ⟨hl, hk, hsp, hpp, hf⟩ := ih hr (by simp [hi]) (fun k q hq => by
        have := hv (k + 1) q (by simpa using hq)
        rw [show i + 1 + k = i + (k + 1) by omega]
        exact this)
      refine ⟨by simp [hl], fun k o' p' ho hp => ?_, by simpa using hsp, by simpa using hpp, fun w hR hall hse => ?_⟩
      · cases k with
        | zero =>
          obtain rfl : o = o' := by simpa using ho
          obtain rfl : p = p' := by simpa using hp
          exact ⟨hst, hmv, fun w hR hd hpr => by simpa [puts] using hs w hR (by simpa using hd) (by simpa using hpr)⟩
        | succ k =>
          have := hk k o' p' (by simpa using ho) (by simpa using hp)
          refine ⟨this.1, this.2.1, fun w hR hd hpr => ?_⟩
          have e : i + 1 + k = i + (k + 1) := by omega
          have := this.2.2 w hR (by rw [e]; simpa using hd) (by rw [e]; exact hpr)
          rw [show part seps vals (i + 1 + k) p'.1 = part seps vals (i + (k + 1)) p'.1 by rw [e]] at this
          simpa [puts] using this
      · rw [puts]
        exact hf w hR (by simpa using hall) hse

set_option maxHeartbeats 1600000 in
theorem wp_region_pas {id : Nat} {l : List Oper} {a0 : Act} {w : World} (Rd R : World → World → Prop) (B : List (List Nat)) (m : Nat) (pres : List ((World → Prop) × Nat)) (seps : Seps) {ps : List Item}
    (hm : P.follows .mixedOrders = true) (hsel : Region.noSelect l.toArray = true) (hsound : soundB l.toArray B = true) (hfwd : fwdB l.toArray = true) (hapart : apartB l.toArray B = true)
    (htl : tailB l.toArray B m = true) (hrefl : ∀ w, R w w) (htrans : ∀ {a b c}, R a b → R b c → R a c)
    (hpre : ∀ e ∈ pres, e.1 w.drew) (hprd : ∀ e ∈ pres, ∀ w w', Rd w w' → e.1 w → e.1 w')
    (hsB : ∀ e ∈ seps, (B.getD e.2.1 []).contains e.1 = true ∧ e.2.1 < m ∧ e.2.1 < l.length)
    (H : ∀ vals, Se P l.toArray (Par.Calm Q) (wpList P l.toArray Q (l.drop m)) Rd R w.drew B pres seps vals (l.take m) 0 a0 [] ps) : (Code.region id l.toArray true).wp P Q a0 w := by
  refine wp_region_any hm ?_
  change wpAny P .any l.toArray Q l.toArray.size (Array.replicate l.toArray.size false) a0 w.drew
  generalize w.drew = w0 at *
  have hln : (l.take m).length = ps.length := by
    have := (Se.step (H fun i => (ps.getD i (Par.Post.rel fun _ _ => True, none)).1.val undef) rfl (fun k p hp => by
      simp only [List.length_nil, Nat.zero_add, List.getD_eq_getElem?_getD, hp, Option.getD_some]
      rcases p with ⟨p, _⟩; cases p <;> rfl)).1
    exact this
  have htk : ∀ k, k < m → (l.take m)[k]? = l[k]? := fun k hk => List.getElem?_take_of_lt hk
  have htl' : ∀ i, m ≤ i → i < l.length → ∀ j, j < i → (B.getD i []).contains j = true := by
    intro i h1 h2 j h3
    simp only [tailB, List.all_eq_true, List.mem_range, List.size_toArray] at htl
    have := htl i h2
    simp only [Bool.or_eq_true, decide_eq_true_eq, List.all_eq_true, List.mem_range] at this
    rcases this with h | h
    · omega
    · exact h j h3
  have hdown : ∀ (i : Nat) (listed : Array Bool), i ∈ Region.ready .any l.toArray listed → (∀ k, listed.getD k false = true → ∀ j, (B.getD k []).contains j = true → listed.getD j false = true) → ∀ j, (B.getD i []).contains j = true → listed.getD j false = true := by
    intro i listed hi hdc j hj
    obtain ⟨h0, o, ho, hafter⟩ := mem_ready.1 hi
    have hil : i < l.length := by have := (Array.getElem?_eq_some_iff.1 ho).1; simpa using this
    simp only [soundB, List.all_eq_true, List.mem_range, List.size_toArray] at hsound
    have h1 := hsound i hil j (by simpa using hj)
    simp only [ho] at h1
    obtain ⟨e, he, hb⟩ := Array.any_eq_true'.1 h1
    simp only [Bool.and_eq_true, Bool.or_eq_true, beq_iff_eq] at hb
    have h2 := hafter e he hb.1
    rcases hb.2 with rfl | hb2
    · exact h2
    · exact hdc _ h2 j hb2
  have huniq : ∀ (t : Tmp) (k m : Nat) (o o' : Oper), l[k]? = some o → l[m]? = some o' → o.dst = some t → o'.dst = some t → k = m := by
    intro t k m o o' hk hm hd hd'
    by_cases e : k = m
    · exact e
    · have hk' : k < l.length := (List.getElem?_eq_some_iff.1 hk).1
      have hm' : m < l.length := (List.getElem?_eq_some_iff.1 hm).1
      simp only [apartB, List.all_eq_true, List.mem_range, List.size_toArray] at hapart
      have := hapart k hk' m hm'
      simp [hk, hm, hd', hd, e] at this
  -- the front is through
  have endg : ∀ (fuel : Nat) (listed : Array Bool) (a : Act) (w : World) (vals : Nat → Value), listed.size = l.length →
      (∀ k p, ps[k]? = some p → p.1.val (vals k) = vals k) → R w0 w →
      (∀ i, listed.getD i false = true → ∀ j, (B.getD i []).contains j = true → listed.getD j false = true) →
      (∀ k, listed.getD k false = true → k < m) →
      (∀ k p, listed.getD k false = true → ps[k]? = some p → p.1.holds (vals k) w) →
      (∀ e ∈ seps, listed.getD e.2.1 false = true → e.2.2 (vals e.1) (vals e.2.1)) →
      a.tmps.size = a0.tmps.size → a.defers = a0.defers →
      (∀ (k : Nat) (o : Oper) (t : Tmp), l[k]? = some o → o.dst = some t → a.tmps[t]? = if listed.getD k false = true then (if t < a0.tmps.size then some (vals k) else none) else a0.tmps[t]?) →
      (∀ t : Tmp, (∀ (k : Nat) (o : Oper), l[k]? = some o → o.dst ≠ some t) → a.tmps[t]? = a0.tmps[t]?) →
      (∀ i, i < m → i < l.length → listed.getD i false = true) →
      l.length ≤ fuel + (List.range l.length).countP (fun i => listed.getD i false) → wpAny P .any l.toArray Q fuel listed a w := by
    intro fuel listed a w vals hls hn hR hdc hfr hh hse hsz hdf hput hold hall hcnt
    obtain ⟨_, _, _, _, hf⟩ := Se.step (H vals) rfl (fun k p hp => by simpa using hn k p hp)
    have hlow : ∀ k, listed.getD k false = true → k < l.length := by
      intro k hk
      rcases Nat.lt_or_ge k l.length with h | h
      · exact h
      · simp [Array.getElem?_eq_none (show listed.size ≤ k by omega)] at hk
    have := hf w hR (fun j hj => by
      simp only [List.nil_append] at hj ⊢
      rw [List.getD_eq_getElem?_getD, List.getElem?_map, List.getElem?_eq_getElem hj]
      have hjm : j < m ∧ j < l.length := by
        have : j < (l.take m).length := by omega
        simp only [List.length_take] at this
        omega
      exact hh j _ (hall j hjm.1 hjm.2) (List.getElem?_eq_getElem hj)) (fun e he => hse e he (hall e.2.1 (hsB e he).2.1 (hsB e he).2.2))
    have e : a = puts vals (l.take m) 0 a0 := by
      have h1 : a.tmps = (puts vals (l.take m) 0 a0).tmps := by
        apply Array.ext_getElem?
        intro t
        obtain ⟨g1, g2⟩ := puts_get vals t (l.take m) 0 a0 (fun k n o o' hk hn => huniq t k n o o' (take_get hk).2 (take_get hn).2)
        by_cases hex : ∃ (k : Nat) (o : Oper), l[k]? = some o ∧ o.dst = some t
        · obtain ⟨k, o, hk, hd⟩ := hex
          rw [hput k o t hk hd]
          by_cases hkm : k < m
          · rw [g1 k o (by rw [htk k hkm]; exact hk) hd, if_pos (hall k hkm (List.getElem?_eq_some_iff.1 hk).1), Nat.zero_add]
          · rw [if_neg (fun h => hkm (hfr k h)), g2]
            intro n o' hn' hd'
            have := take_get hn'
            have := huniq t n k o' o this.2 hk hd' hd
            omega
        · have hno : ∀ (k : Nat) (o : Oper), l[k]? = some o → o.dst ≠ some t := fun k o hk hd => hex ⟨k, o, hk, hd⟩
          rw [hold t hno, g2 (fun k o hk => hno k o (take_get hk).2)]
      have h2 : a.defers = (puts vals (l.take m) 0 a0).defers := by rw [puts_defers, hdf]
      generalize puts vals (l.take m) 0 a0 = b at h1 h2
      cases a; cases b
      cases h1; cases h2
      rfl
    rw [← e] at this
    have hc := cnt_le (f := fun i => listed.getD i false) hfr l.length
    exact tail_any hsound hfwd hdown (l.drop m) m rfl htl' fuel listed a w hls (fun k => ⟨fun h => ⟨hfr k h, hlow k h⟩, fun h => hall k h.1 h.2⟩) hdc (by omega) this
  have main : ∀ (fuel : Nat) (listed : Array Bool) (a : Act) (w : World) (vals : Nat → Value), listed.size = l.length →
      (∀ k p, ps[k]? = some p → p.1.val (vals k) = vals k) → R w0 w →
      (∀ i, listed.getD i false = true → ∀ j, (B.getD i []).contains j = true → listed.getD j false = true) →
      (∀ k, listed.getD k false = true → k < m) →
      (∀ k p, listed.getD k false = true → ps[k]? = some p → p.1.holds (vals k) w) →
      (∀ e ∈ seps, listed.getD e.2.1 false = true → e.2.2 (vals e.1) (vals e.2.1)) →
      (∀ e ∈ pres, listed.getD e.2 false = false → e.1 w) →
      a.tmps.size = a0.tmps.size → a.defers = a0.defers →
      (∀ (k : Nat) (o : Oper) (t : Tmp), l[k]? = some o → o.dst = some t → a.tmps[t]? = if listed.getD k false = true then (if t < a0.tmps.size then some (vals k) else none) else a0.tmps[t]?) →
      (∀ t : Tmp, (∀ (k : Nat) (o : Oper), l[k]? = some o → o.dst ≠ some t) → a.tmps[t]? = a0.tmps[t]?) →
      l.length ≤ fuel + (List.range l.length).countP (fun i => listed.getD i false) →
      wpAny P .any l.toArray Q fuel listed a w := by
    intro fuel
    induction fuel with
    | zero =>
      intro listed a w vals hls hn hR hdc hfr hh hse hpr hsz hdf hput hold hcnt
      have hall : ∀ i, i < l.length → listed.getD i false = true := by
        intro i hi
        have h1 : (List.range l.length).countP (fun i => listed.getD i false) = (List.range l.length).length := by
          have := List.countP_le_length (p := fun i => listed.getD i false) (l := List.range l.length)
          simp only [List.length_range] at this ⊢
          omega
        exact List.countP_eq_length.1 h1 i (List.mem_range.2 hi)
      exact endg 0 listed a w vals hls hn hR hdc hfr hh hse hsz hdf hput hold (fun i _ hi => hall i hi) hcnt
    | succ fuel ih =>
      intro listed a w vals hls hn hR hdc hfr hh hse hpr hsz hdf hput hold hcnt
      by_cases hall : ∀ i, i < m → i < l.length → listed.getD i false = true
      · exact endg (fuel + 1) listed a w vals hls hn hR hdc hfr hh hse hsz hdf hput hold hall hcnt
      refine ⟨fun hr => ?_, fun i hi => ?_⟩
      · -- nothing may come up: all has
        exfalso
        have hmin : ∀ n i, i ≤ n → i < l.length → listed.getD i false = true := by
          intro n
          induction n using Nat.strongRecOn with
          | ind n ihn =>
            intro i hin hil
            cases hli : listed.getD i false with
            | true => rfl
            | false =>
              exfalso
              have : i ∈ Region.ready .any l.toArray listed := by
                refine mem_ready.2 ⟨?_, l[i], by simp, fun e he hb => ?_⟩
                · simp [Array.getElem?_eq_getElem (show i < listed.size by omega)] at hli ⊢
                  exact hli
                · simp only [fwdB, List.all_eq_true, List.mem_range, List.size_toArray] at hfwd
                  have h1 := hfwd i hil
                  rw [show l.toArray[i]? = some l[i] by simp] at h1
                  have h2 := Array.all_eq_true_iff_forall_mem.1 h1 e he
                  simp only [hb, Bool.not_true, Bool.false_or, decide_eq_true_eq] at h2
                  by_cases hn0 : e.on < n
                  · exact ihn e.on hn0 e.on (Nat.le_refl _) (by omega)
                  · omega
              rw [hr] at this
              cases this
        exact hall fun i _ hi => hmin i i (Nat.le_refl _) hi
      · obtain ⟨h0, o, ho, hafter⟩ := mem_ready.1 hi
        have hlo : l[i]? = some o := by simpa using ho
        have hil : i < l.length := (List.getElem?_eq_some_iff.1 hlo).1
        have hli : listed.getD i false = false := by
          simp [Array.getElem?_eq_getElem (show i < listed.size by omega)] at h0 ⊢
          exact h0
        -- those that must come ahead have come
        have hB := hdown i listed hi hdc
        have him : i < m := by
          rcases Nat.lt_or_ge i m with h | h
          · exact h
          · exact absurd (fun k hk _ => hB k (htl' i h hil k (by omega))) hall
        obtain ⟨p, hp⟩ : ∃ p, ps[i]? = some p := ⟨_, List.getElem?_eq_getElem (by
          have : i < (l.take m).length := by simp only [List.length_take]; omega
          omega)⟩
        obtain ⟨_, hk, hsp, hpp, _⟩ := Se.step (H vals) rfl (fun k p hp => by simpa using hn k p hp)
        obtain ⟨hst, hmv, hs⟩ := hk i o p (by rw [htk i him]; exact hlo) hp
        have hdeps : Deps B (0 + i) (([] ++ ps.take i).map Prod.fst) vals w := by
          intro j hj
          rw [Nat.zero_add] at hj
          have h1 := hB j hj
          simp only [List.nil_append, List.getD_eq_getElem?_getD]
          by_cases hji : j < i
          · have hjp : j < ps.length := by
              have := (List.getElem?_eq_some_iff.1 hp).1
              omega
            rw [List.getElem?_map, List.getElem?_take_of_lt hji, List.getElem?_eq_getElem hjp]
            exact hh j _ h1 (List.getElem?_eq_getElem hjp)
          · rw [List.getElem?_eq_none (by simp; omega)]
            trivial
        have hpres : Pre B pres (0 + i) w := by
          intro e he hei
          rw [Nat.zero_add] at hei
          refine hpr e he ?_
          rcases hei with h | h
          · rw [h]; exact hli
          · cases hc : listed.getD e.2 false with
            | false => rfl
            | true => have := hdc e.2 hc i h; rw [hli] at this; cases this
        have hS := hs w hR hdeps hpres
        rw [show part seps vals (0 + i) p.1 = part seps vals i p.1 by rw [Nat.zero_add]] at hS
        rw [List.take_take, Nat.min_eq_left (Nat.le_of_lt him)] at hS
        have hsel' : ∀ cs b, o.op ≠ .select cs b := fun cs b => Region.noSelect_spec hsel i o cs b ho
        -- what it looks at stands there
        have hlook : ∀ t, t ∈ o.looksAt l.toArray → a.tmps[t]? = (puts vals (l.take i) 0 a0).tmps[t]? := by
          intro t ht
          obtain ⟨g1, g2⟩ := puts_get vals t (l.take i) 0 a0 (fun k m o o' hk hm => huniq t k m o o' (take_get hk).2 (take_get hm).2)
          by_cases hex : ∃ (k : Nat) (o' : Oper), l[k]? = some o' ∧ o'.dst = some t
          · obtain ⟨k, o', hk, hd⟩ := hex
            have hkl : k < l.length := (List.getElem?_eq_some_iff.1 hk).1
            rw [hput k o' t hk hd]
            by_cases hki : k = i
            · subst hki
              rw [hli]
              simp only [Bool.false_eq_true, if_false]
              rw [g2]
              intro m o'' hm hd'
              have hmi := (take_get hm).1
              have := huniq t k m o' o'' hk (take_get hm).2 hd hd'
              omega
            · simp only [apartB, List.all_eq_true, List.mem_range, List.size_toArray] at hapart
              have h1 := hapart i hil k hkl
              simp only [ho, List.getElem?_toArray, hk, hd, Bool.or_eq_true, beq_iff_eq, Bool.and_eq_true, bne_iff_ne, Bool.not_eq_true', decide_eq_true_eq] at h1
              rcases h1 with h1 | ⟨_, (h1 | ⟨h1, h2⟩) | ⟨h1, h2⟩⟩
              · exact absurd h1.symm hki
              · exact absurd (by simpa using ht) (by simpa using h1)
              · rw [if_pos (hB k h2), g1 k o' (by rw [List.getElem?_take_of_lt h1]; exact hk) hd, Nat.zero_add]
              · have hlk : listed.getD k false = false := by
                  cases hc : listed.getD k false with
                  | false => rfl
                  | true => have := hdc k hc i h2; rw [hli] at this; cases this
                rw [hlk]
                simp only [Bool.false_eq_true, if_false]
                rw [g2]
                intro m o'' hm hd'
                have hmi := (take_get hm).1
                have := huniq t k m o' o'' hk (take_get hm).2 hd hd'
                omega
          · have hno : ∀ (k : Nat) (o' : Oper), l[k]? = some o' → o'.dst ≠ some t := fun k o' hk hd => hex ⟨k, o', hk, hd⟩
            rw [hold t hno, g2 (fun k o' hk => hno k o' (take_get hk).2)]
        have heval : ∀ x ∈ o.op.operands, a.eval x = (puts vals (l.take i) 0 a0).eval x := by
          intro x hx
          cases x with
          | tmp t =>
            have := hlook t (List.mem_append_left _ (List.mem_filterMap.2 ⟨.tmp t, by simpa using hx, rfl⟩))
            simp only [Act.eval, Array.getD_eq_getD_getElem?, this]
          | _ => rfl
        have hwant : Region.wanted o (yielded l.toArray a.tmps) = Region.wanted o (yielded l.toArray (puts vals (l.take i) 0 a0).tmps) := by
          unfold Region.wanted
          cases hg : o.guard with
          | none => rfl
          | some gw =>
            obtain ⟨g, want⟩ := gw
            have hy : yielded l.toArray a.tmps g = yielded l.toArray (puts vals (l.take i) 0 a0).tmps g := by
              unfold yielded
              cases ht : (l.toArray[g]?).bind (·.dst) with
              | none => simp only [Option.bind_none]
              | some t =>
                have := hlook t (List.mem_append_right _ (by simp only [hg, ht, Option.toList_some, List.mem_singleton]))
                simp only [Option.bind_some, this]
            simp only [hy]
        refine step_to hS hsel' (execOp_congr o hsel' heval) hwant (by rw [puts_size]; exact hsz) ho ?_
        intro v w' hRw hpv0
        have hpv := hpv0.1
        have hnew : ∀ k, (listed.setIfInBounds i true).getD k false = true ↔ (k = i ∨ listed.getD k false = true) := by
          intro k
          by_cases hki : i = k
          · subst hki
            simp [hls, hil]
          · rw [getD_set_ne false hki]
            constructor
            · exact fun h => .inr h
            · rintro (h | h)
              · exact absurd h.symm hki
              · exact h
        refine ih (listed.setIfInBounds i true) (a.put o.dst v) w' (fun k => if k = i then v else vals k) (by simpa using hls) ?_ (htrans hR (hmv _ _ hRw)) ?_ ?_ ?_ ?_ ?_ (by rw [put_size]; exact hsz) (by rw [put_defers']; exact hdf) ?_ ?_ ?_
        · intro k q hq
          split
          · rename_i hki
            subst hki
            obtain rfl := Option.some.inj (hp.symm.trans hq)
            rcases p with ⟨p, sp⟩
            cases p with
            | exact e => simp only [Post.holds] at hpv; subst hpv; rfl
            | rel G => rfl
          · exact hn k q hq
        · intro k hk' j hj
          rw [hnew] at hk' ⊢
          rcases hk' with rfl | hk'
          · exact .inr (hB j hj)
          · exact .inr (hdc k hk' j hj)
        · intro k hk'
          rw [hnew] at hk'
          rcases hk' with rfl | hk'
          · exact him
          · exact hfr k hk'
        · intro k q hk' hq
          split
          · rename_i hki
            subst hki
            obtain rfl := Option.some.inj (hp.symm.trans hq)
            exact hpv
          · rename_i hki
            rw [hnew] at hk'
            have hk2 := hk'.resolve_left hki
            have := hh k q hk2 hq
            obtain ⟨o2, ho2⟩ : ∃ o2, (l.take m)[k]? = some o2 := ⟨_, List.getElem?_eq_getElem (by rw [hln]; exact (List.getElem?_eq_some_iff.1 hq).1)⟩
            match hs2 : p.2 with
            | none =>
              have hRw' : Rd w w' := by simpa [moves, hs2] using hRw
              exact (hk k o2 q ho2 hq).1 _ _ _ this hRw'
            | some S =>
              have hRw' : S w w' := by simpa [moves, hs2] using hRw
              exact hsp i p S (by simpa using hp) hs2 k q (by simpa using hq) hki (by
                cases hc : (B.getD k []).contains i with
                | false => rfl
                | true => have := hdc k hk2 i hc; rw [hli] at this; cases this) w w' hR hRw' this
        · intro e he hel
          obtain ⟨hb1, _, _⟩ := hsB e he
          rw [hnew] at hel
          have hne1 : e.1 ≠ i := by
            intro h
            rcases hel with h2 | h2
            · rw [h2, h] at hb1
              have := hB i hb1
              rw [hli] at this
              cases this
            · have := hdc _ h2 e.1 hb1
              rw [h, hli] at this
              cases this
          show e.2.2 (if e.1 = i then v else vals e.1) (if e.2.1 = i then v else vals e.2.1)
          rw [if_neg hne1]
          by_cases h2 : e.2.1 = i
          · rw [if_pos h2]
            exact hpv0.2 e he h2
          · rw [if_neg h2]
            exact hse e he (hel.resolve_left h2)
        · intro e he hel
          have hne : e.2 ≠ i := fun h => by rw [(hnew e.2).2 (.inl h)] at hel; cases hel
          have hol : listed.getD e.2 false = false := by
            cases hc : listed.getD e.2 false with
            | false => rfl
            | true => rw [(hnew e.2).2 (.inr hc)] at hel; cases hel
          have hew := hpr e he hol
          match hs2 : p.2 with
          | none => exact hprd e he w w' (by simpa [moves, hs2] using hRw) hew
          | some S => exact hpp i p S (by simpa using hp) hs2 e he hne w w' hR (by simpa [moves, hs2] using hRw) hew
        · intro k o' t hk' hd
          rw [put_get]
          by_cases hki : k = i
          · subst hki
            obtain rfl := Option.some.inj (hlo.symm.trans hk')
            rw [if_pos ((hnew k).2 (.inl rfl))]
            by_cases hlt : t < a0.tmps.size
            · simp [hd, hlt, hsz]
            · simp only [hd, hsz, hlt, and_false, if_false]
              rw [Array.getElem?_eq_none (show a.tmps.size ≤ t by rw [hsz]; exact Nat.not_lt.1 hlt)]
          · have hne : o.dst ≠ some t := fun e => hki (huniq t k i o' o hk' hlo hd e)
            rw [if_neg (fun h => hne h.1), hput k o' t hk' hd]
            have : ((listed.setIfInBounds i true).getD k false = true) ↔ (listed.getD k false = true) := by
              rw [hnew]; exact ⟨fun h => h.resolve_left hki, .inr⟩
            by_cases hl : listed.getD k false = true
            · rw [if_pos hl, if_pos (this.2 hl), if_neg hki]
            · rw [if_neg hl, if_neg (fun h => hl (this.1 h))]
        · intro t ht
          rw [put_get, if_neg (fun h => ht i o hlo h.1)]
          exact hold t ht
        · have h1 := cnt_set (f := fun k => listed.getD k false) (g := fun k => (listed.setIfInBounds i true).getD k false) hli ((hnew i).2 (.inl rfl))
            (fun k hk => getD_set_ne false (fun e => hk e.symm)) l.length
          rw [if_pos hil] at h1
          omega
  have hrep : ∀ k, (Array.replicate l.toArray.size false).getD k false = false := by
    intro k
    simp only [Array.getD_eq_getD_getElem?, Array.getElem?_replicate]
    split <;> rfl
  refine main l.toArray.size _ a0 w0 (fun i => (ps.getD i (Par.Post.rel fun _ _ => True, none)).1.val undef) (by simp) ?_ (hrefl _) ?_ ?_ ?_ (fun e he h => by rw [hrep] at h; cases h) (fun e he _ => hpre e he) rfl rfl ?_ (fun _ _ => rfl) (by simp)
  · intro k p hp
    simp only [List.getD_eq_getElem?_getD, hp, Option.getD_some]
    rcases p with ⟨p, _⟩
    cases p <;> rfl
  · intro i hi
    rw [hrep] at hi
    cases hi
  · intro i hi
    rw [hrep] at hi
    cases hi
  · intro k p hk
    rw [hrep] at hk
    cases hk
  · intro k o t hk hd
    rw [hrep, if_neg (by simp)]

variable {B : List (List Nat)} {pres : List ((World → Prop) × Nat)} {seps : Seps} {vals : Nat → Value} {o : Oper} {os : List Oper} {i : Nat} {A : Act} {done ps : List Item}

theorem wp_region_pass {id : Nat} {l : List Oper} {a0 : Act} {w : World} (Rd R : World → World → Prop) (m : Nat)
    (hm : P.follows .mixedOrders = true) (hsel : Region.noSelect l.toArray = true) (hsound : soundB l.toArray (befs l.toArray) = true) (hfwd : fwdB l.toArray = true) (hapart : apartB l.toArray (befs l.toArray) = true)
    (htl : tailB l.toArray (befs l.toArray) m = true) (hrefl : ∀ w, R w w) (htrans : ∀ {a b c}, R a b → R b c → R a c) (pres : List ((World → Prop) × Nat)) (seps : Seps) {ps : List Item} (hpre : ∀ e ∈ pres, e.1 w.drew) (hprd : ∀ e ∈ pres, ∀ w w', Rd w w' → e.1 w → e.1 w')
    (hsB : ∀ e ∈ seps, ((befs l.toArray).getD e.2.1 []).contains e.1 = true ∧ e.2.1 < m ∧ e.2.1 < l.length)
    (H : ∀ vals, Se P l.toArray (Par.Calm Q) (wpList P l.toArray Q (l.drop m)) Rd R w.drew (befs l.toArray) pres seps vals (l.take m) 0 a0 [] ps) : (Code.region id l.toArray true).wp P Q a0 w :=
  wp_region_pas Rd R (befs l.toArray) m pres seps hm hsel hsound hfwd hapart htl hrefl htrans hpre hprd hsB H

theorem no_sep {seps : Seps} {vals : Nat → Value} {i : Nat} (h : seps.all (fun e => e.2.1 != i) = true) (v : Value) : ∀ e ∈ seps, e.2.1 = i → e.2.2 (vals e.1) v := by
  intro e he hi
  have := List.all_eq_true.1 h e he
  simp [hi] at this
/-- One that is told apart from older ones. -/
theorem pas_p (G : Value → World → Prop) (hd : ∀ w w', Rd w w' → R w w') (hg : o.guard = none) (hst : ∀ v w w', G v w → Rd w w' → G v w')
    (h : ∀ w, R w0 w → Deps B i (done.map Prod.fst) vals w → Pre B pres i w → ∀ K : Act → World → Prop, (∀ v w', Rd w w' → G v w' → (∀ e ∈ seps, e.2.1 = i → e.2.2 (vals e.1) v) → K (A.put o.dst v) w') → o.wp P A w K Q)
    (t : Se P ops Q F Rd R w0 B pres seps vals os (i + 1) (A.put o.dst (vals i)) (done ++ [(.rel G, none)]) ps) : Se P ops Q F Rd R w0 B pres seps vals (o :: os) i A done ((.rel G, none) :: ps) :=
  ⟨hst, fun w w' h => hd w w' h, fun w hR hD hP K hK => by
    rw [if_pos (by simp [Region.wanted, hg])]
    exact .inl (h w hR hD hP K fun v w' h1 h2 h3 => hK v w' h1 ⟨h2, h3⟩), t⟩
theorem pas_x {e : Value} (hd : ∀ w w', Rd w w' → R w w') (hg : o.guard = none) (hsp : seps.all (fun e => e.2.1 != i) = true)
    (h : ∀ w, R w0 w → Deps B i (done.map Prod.fst) vals w → Pre B pres i w → ∀ K : Act → World → Prop, (∀ w', Rd w w' → K (A.put o.dst e) w') → o.wp P A w K Q)
    (t : Se P ops Q F Rd R w0 B pres seps vals os (i + 1) (A.put o.dst e) (done ++ [(.exact e, none)]) ps) : Se P ops Q F Rd R w0 B pres seps vals (o :: os) i A done ((.exact e, none) :: ps) :=
  ⟨fun _ _ _ h _ => h, fun w w' h => hd w w' h, fun w hR hD hP K hK => by
    rw [if_pos (by simp [Region.wanted, hg])]
    exact .inl (h w hR hD hP K fun w' h' => hK e w' h' ⟨rfl, no_sep hsp _⟩), t⟩

theorem pas_r (G : Value → World → Prop) (hd : ∀ w w', Rd w w' → R w w') (hg : o.guard = none) (hst : ∀ v w w', G v w → Rd w w' → G v w') (hsp : seps.all (fun e => e.2.1 != i) = true)
    (h : ∀ w, R w0 w → Deps B i (done.map Prod.fst) vals w → Pre B pres i w → ∀ K : Act → World → Prop, (∀ v w', Rd w w' → G v w' → K (A.put o.dst v) w') → o.wp P A w K Q)
    (t : Se P ops Q F Rd R w0 B pres seps vals os (i + 1) (A.put o.dst (vals i)) (done ++ [(.rel G, none)]) ps) : Se P ops Q F Rd R w0 B pres seps vals (o :: os) i A done ((.rel G, none) :: ps) :=
  ⟨hst, fun w w' h => hd w w' h, fun w hR hD hP K hK => by
    rw [if_pos (by simp [Region.wanted, hg])]
    exact .inl (h w hR hD hP K fun v w' h1 h2 => hK v w' h1 ⟨h2, no_sep hsp v⟩), t⟩

/-- One that writes. -/
theorem pas_s (S : World → World → Prop) (G : Value → World → Prop) (hd : ∀ w w', S w w' → R w w') (hg : o.guard = none) (hst : ∀ v w w', G v w → Rd w w' → G v w') (hsp : seps.all (fun e => e.2.1 != i) = true)
    (h : ∀ w, R w0 w → Deps B i (done.map Prod.fst) vals w → Pre B pres i w → ∀ K : Act → World → Prop, (∀ v w', S w w' → G v w' → K (A.put o.dst v) w') → o.wp P A w K Q)
    (t : Se P ops Q F Rd R w0 B pres seps vals os (i + 1) (A.put o.dst (vals i)) (done ++ [(.rel G, some S)]) ps) : Se P ops Q F Rd R w0 B pres seps vals (o :: os) i A done ((.rel G, some S) :: ps) :=
  ⟨hst, fun w w' h => hd w w' h, fun w hR hD hP K hK => by
    rw [if_pos (by simp [Region.wanted, hg])]
    exact .inl (h w hR hD hP K fun v w' h1 h2 => hK v w' h1 ⟨h2, no_sep hsp v⟩), t⟩

theorem pas_end (hs : ∀ (i : Nat) (q : Item) (S : World → World → Prop), done[i]? = some q → q.2 = some S → ∀ (k : Nat) (p : Item), done[k]? = some p → k ≠ i → (B.getD k []).contains i = false → ∀ w w', R w0 w → S w w' → p.1.holds (vals k) w → p.1.holds (vals k) w')
    (hp : ∀ (i : Nat) (q : Item) (S : World → World → Prop), done[i]? = some q → q.2 = some S → ∀ e ∈ pres, e.2 ≠ i → ∀ w w', R w0 w → S w w' → e.1 w → e.1 w')
    (h : ∀ w, R w0 w → (∀ j, j < done.length → ((done.map Prod.fst).getD j (Par.Post.rel fun _ _ => True)).holds (vals j) w) → (∀ e ∈ seps, e.2.2 (vals e.1) (vals e.2.1)) → F A w) : Se P ops Q F Rd R w0 B pres seps vals [] i A done [] := ⟨hs, hp, h⟩
/-- f of each, with its number. -/
def AllK : List Item → Nat → (Nat → Item → Prop) → Prop
  | [], _, _ => True
  | p :: ps, k, f => f k p ∧ AllK ps (k + 1) f
theorem allK_get {f : Nat → Item → Prop} : ∀ {l : List Item} {n : Nat}, AllK l n f → ∀ {k : Nat} {p : Item}, l[k]? = some p → f (n + k) p
  | [], n, _, k, p, hk => by simp at hk
  | q :: l, n, h, k, p, hk => by
    cases k with
    | zero => obtain rfl : q = p := by simpa using hk
              exact h.1
    | succ k =>
      have := allK_get h.2 (k := k) (p := p) (by simpa using hk)
      rwa [show n + 1 + k = n + (k + 1) by omega] at this

theorem pas_ends (hs : AllK done 0 fun i q => match q.2 with | none => True | some S => AllK done 0 fun k p => k = i ∨ (B.getD k []).contains i = true ∨ match p.1 with | .exact _ => True | .rel G => ∀ v w w', R w0 w → S w w' → G v w → G v w')
    (hp : AllK done 0 fun i q => match q.2 with | none => True | some S => ∀ e ∈ pres, e.2 = i ∨ ∀ w w', R w0 w → S w w' → e.1 w → e.1 w')
    (h : ∀ w, R w0 w → (∀ j, j < done.length → ((done.map Prod.fst).getD j (Par.Post.rel fun _ _ => True)).holds (vals j) w) → (∀ e ∈ seps, e.2.2 (vals e.1) (vals e.2.1)) → F A w) : Se P ops Q F Rd R w0 B pres seps vals [] i A done [] := by
  refine pas_end (fun i q S hi hS k p hk hne hnb w w' hR hSS hh => ?_) (fun i q S hi hS e he hne w w' hR hSS hh => ?_) h
  · have h1 := allK_get hs hi
    simp only [Nat.zero_add] at h1
    rw [hS] at h1
    have h2 := allK_get h1 hk
    simp only [Nat.zero_add] at h2
    have h3 := (h2.resolve_left hne).resolve_left (by rw [hnb]; simp)
    rcases p with ⟨p, sp⟩
    cases p with
    | exact e => exact hh
    | rel G => exact h3 _ w w' hR hSS hh
  · have h1 := allK_get hp hi
    simp only [Nat.zero_add] at h1
    rw [hS] at h1
    exact (h1 e he).resolve_left hne w w' hR hSS hh
end
end Go.Se
