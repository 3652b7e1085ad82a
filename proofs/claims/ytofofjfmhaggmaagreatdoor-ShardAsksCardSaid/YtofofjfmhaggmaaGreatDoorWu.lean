/- A shard's tick. -/
import Derived.Test.YtofofjfmhaggmaaGreatDoorWt
set_option linter.unusedVariables false
set_option linter.unusedSimpArgs false
namespace Go.Proofs.YtofofjfmhaggmaaGreatDoor
open Go.RowKit

/-! ### Rows of another kind change: a shard stays -/
def ExT (T : TypeId) (Q : Nat → Prop) (w : World) : Nat → Prop := fun g => Q g ∨ ∃ cs, w.heap[g]? = some (.cells cs T (0, 0))
section
variable {Q S : Nat → Prop} {w w' : World} {v : Value} {T : TypeId}
theorem Rq.exT {e : TypeId} {size n : Nat} {xs : List Value} (h : Rq Q w e size v n xs) (he : e ≠ T) : Rq (ExT T Q w) w e size v n xs := ⟨h.1, fun g hg hq => hq.elim (h.2 g hg) fun ⟨cs, hc⟩ => own_other h.1 hc he hg⟩
theorem NodeQ.exT {n : NodeL} (h : NodeQ Q w v n) (h1 : 9 ≠ T) : NodeQ (ExT T Q w) w v n := by
  obtain ⟨u, x, e, h2, h3⟩ := h
  exact ⟨u, x, e, Rq.exT h2 h1, Rq.exT h3 h1⟩
theorem StV.exT {s : StL} (h : StV Q w v s) (h1 : 3 ≠ T) : StV (ExT T Q w) w v s := by
  cases s with
  | prepared ps age => obtain ⟨e, h2, h3⟩ := h; exact ⟨e, h2, h3.exT h1⟩
  | _ => exact h
/-- A kind of rows that a shard has none of. -/
def Far (T : TypeId) : Prop := 9 ≠ T ∧ 3 ≠ T ∧ 21 ≠ T ∧ 143 ≠ T ∧ 147 ≠ T ∧ 94 ≠ T ∧ 89 ≠ T
theorem LedAt.exT {l a b : Nat} {L : LedL} (h : LedAt Q w l a b L) (f : Far T) : LedAt (ExT T Q w) w l a b L := by
  obtain ⟨h1, ⟨es, h2, h3⟩, ⟨fs, h4, h5⟩, ne, qa, qb, ql⟩ := h
  refine ⟨h1, ⟨es, h2, h3.imp fun e n hn => ⟨hn.1, hn.2.exT f.1⟩⟩, ⟨fs, h4, h5.imp fun e n hn => ⟨hn.1, Rq.exT hn.2 f.2.2.2.1⟩⟩, ne, .inl qa, .inl qb, fun hq => hq.elim ql ?_⟩
  rintro ⟨cs, hc⟩
  rw [h1] at hc
  injection hc with hc
  injection hc with _ hc
  exact absurd hc f.2.2.2.2.1
theorem ShardAt.typed {s l a b m t : Nat} {tv : Value} {h : ShL} (H : ShardAt Q w s l a b m t tv h) (f : Far T) (k : Mod S w w') (hS : ∀ g, S g → ∃ cs, w.heap[g]? = some (.cells cs T (0, 0))) : ShardAt Q w' s l a b m t tv h := by
  obtain ⟨h1, h2, ⟨gs, h3, h3'⟩, ⟨cs, h4, h5, h6⟩, h7, h8, h9, h10, h11⟩ := H
  obtain ⟨es, e1, _⟩ := h2.nodes
  obtain ⟨fs, e2, _⟩ := h2.taken
  have hE : ∀ g, g < w.heap.size → S g → ExT T Q w g := fun g _ hg => .inr (hS g hg)
  have hm : ∀ {g : Nat} {ds : Array Value} {U : TypeId}, w.heap[g]? = some (.cells ds U (0, 0)) → U ≠ T → ¬ S g := fun hg hU hs => by
    obtain ⟨cs, hc⟩ := hS _ hs
    rw [hg] at hc
    injection hc with hc
    injection hc with _ hc
    exact hU hc
  have na : ¬ S a := fun hs => by obtain ⟨cs, hc⟩ := hS _ hs; exact mapS_ne e1 hc rfl
  have nb : ¬ S b := fun hs => by obtain ⟨cs, hc⟩ := hS _ hs; exact mapI_ne e2 hc rfl
  have nm : ¬ S m := fun hs => by obtain ⟨cs, hc⟩ := hS _ hs; exact mapI_ne h3 hc rfl
  refine ⟨k.block' h1 (hm h1 f.2.2.2.2.2.1), ((h2.exT f).mod k hE na nb).sub (fun g _ hg => .inl hg) h2.qa h2.qb, ⟨gs, h3.same _ (k.block m h3.lt nm), h3'.imp fun e n hn => ⟨hn.1, ((hn.2.exT f.2.1).mod k hE).sub (fun g _ hg => .inl hg)⟩⟩, ⟨cs, h4.mod k (hm h4.z f.2.2.2.2.2.2) (fun g hg => ?_), h5, h6⟩, h7, h8, h9, h10, h11⟩
  obtain ⟨ds, hd⟩ := own_typed h4.row g hg
  exact hm hd f.2.2.1
end
theorem far_msg : Far 28 := by unfold Far; decide

/-! ### Plain -/
theorem ticks_snoc (g : Int) : ∀ (l : List Int) (h : ShL), h.ticks (l ++ [g]) = (((h.ticks l).1.tick1 g).1, (h.ticks l).2 ++ ((h.ticks l).1.tick1 g).2)
  | [], h => by simp [ShL.ticks]
  | x :: l, h => by
    rw [List.cons_append, ShL.ticks, ticks_snoc g l (h.tick1 x).1, ShL.ticks, List.append_assoc]
theorem getK_delK {κ α : Type} [DecidableEq κ] (es : List (κ × α)) (x y : κ) : getK (delK es x) y = if y = x then none else getK es y := by
  unfold getK delK
  rw [List.find?_filter]
  by_cases h : y = x
  · subst h
    rw [if_pos rfl, Option.map_eq_none_iff, List.find?_eq_none]
    intro p _
    simp
  · rw [if_neg h]
    congr 1
    congr 1
    funext p
    by_cases e : p.1 = y
    · subst e; simp [h]
    · simp [e]
theorem st_set (h : ShL) (g x : Int) (s : StL) : (h.set g s).st x = if x = g then some s else h.st x := getK_set h.gangs g s x
theorem tick1_st (h : ShL) {g x : Int} (hx : x ≠ g) : (h.tick1 g).1.st x = h.st x := by
  unfold ShL.tick1
  split
  · split
    · rw [st_set, if_neg hx]
    · show getK (delK h.gangs g) x = _
      rw [getK_delK, if_neg hx]
      rfl
  · rw [st_set, if_neg hx]
  · rfl
theorem ticks_st : ∀ (l : List Int) (h : ShL) {x : Int}, x ∉ l → (h.ticks l).1.st x = h.st x
  | [], h, x, _ => rfl
  | g :: l, h, x, hx => by
    rw [ShL.ticks]
    rw [List.mem_cons, not_or] at hx
    exact (ticks_st l _ hx.2).trans (tick1_st h hx.1)
/-- What a tick wants: leases, ages, peers that are not too great; gangs that are gangs, each once. -/
structure TickOk (h : ShL) : Prop where
  held : ∀ g n, h.st g = some (.held n) → 0 ≤ n ∧ n ≤ 1000000
  prep : ∀ g ps n, h.st g = some (.prepared ps n) → 0 ≤ n ∧ n ≤ 1000000 ∧ ps.length ≤ 16
  ids : ∀ p ∈ h.gangs, 1 ≤ p.1 ∧ p.1 ≤ 999999
  once : (h.gangs.map Prod.fst).Nodup
  few : h.gangs.length ≤ 1000000
theorem ShL.keys_nodup {h : ShL} (k : TickOk h) : h.keys.Nodup := (isort_perm (le := leZ) _).nodup_iff.2 k.once
theorem ShL.keys_len (h : ShL) : h.keys.length = h.gangs.length := by unfold ShL.keys; rw [(isort_perm (le := leZ) _).length_eq, List.length_map]
/-- The state of the next one is still as it was. -/
theorem ticks_next {h : ShL} (k : TickOk h) {j : Nat} (hj : j < h.keys.length) : (h.ticks (h.keys.take j)).1.st h.keys[j] = h.st h.keys[j] := by
  refine ticks_st _ _ fun hm => ?_
  obtain ⟨i, hi, e⟩ := List.mem_iff_getElem.1 hm
  rw [List.getElem_take] at e
  rw [List.length_take] at hi
  exact List.pairwise_iff_getElem.1 (ShL.keys_nodup k) i j (by omega) hj (by omega) e
theorem ticks_outs {h : ShL} (k : TickOk h) : ∀ j, j ≤ h.keys.length → (h.ticks (h.keys.take j)).2.length ≤ 17 * j
  | 0, _ => by simp [ShL.ticks]
  | j + 1, hj => by
    have ih := ticks_outs k j (by omega)
    have hst := ticks_next k (j := j) (by omega)
    rw [List.take_succ_eq_append_getElem (by omega), ticks_snoc, List.length_append]
    have : ((h.ticks (h.keys.take j)).1.tick1 h.keys[j]).2.length ≤ 17 := by
      unfold ShL.tick1
      rw [hst]
      split
      · split <;> simp
      · rename_i ps n hs
        have := k.prep _ _ _ hs
        split
        · have := asks_len (h.ticks (h.keys.take j)).1 h.keys[j] ps
          simp only
          omega
        · simp
      · simp
    omega

/-- j gangs' ticks are done. -/
structure TickR (Q : Nat → Prop) (w w1 : World) (s l a b m t : Nat) (tv : Value) (h : ShL) (kv : Value) (j : Nat) (u : Value) (wr : World) : Prop where
  sh : ShardAt Q wr s l a b m t tv (h.ticks (h.keys.take j)).1
  did : Did a b m t tv tv w wr
  keys : wr.ownsRow w.heap.size 3 1 kv h.keys.length (h.keys.map (Value.int .i64))
  out : MsgRow w.heap.size wr u (h.ticks (h.keys.take j)).2
theorem wf_small {n : Int} (h1 : -9223372036854775808 ≤ n) (h2 : n ≤ 9223372036854775807) : (Lit.int .i64 n).wf = true := by
  simp only [Lit.wf, Bool.and_eq_true, decide_eq_true_eq]
  exact ⟨h1, h2⟩
theorem TickR.skip {Q : Nat → Prop} {w w1 wr : World} {s l a b m t : Nat} {tv : Value} {h : ShL} {kv : Value} {j : Nat} {u : Value} (R : TickR Q w w1 s l a b m t tv h kv j u wr) (e : h.ticks (h.keys.take (j + 1)) = ((h.ticks (h.keys.take j)).1, (h.ticks (h.keys.take j)).2 ++ [])) : TickR Q w w1 s l a b m t tv h kv (j + 1) u wr := by
  obtain ⟨r1, r2, r3, r4⟩ := R
  refine ⟨?_, r2, r3, ?_⟩
  · rw [e]; exact r1
  · rw [e, List.append_nil]; exact r4
theorem own_atleast {w : World} {e : TypeId} {size base n : Nat} {v : Value} {xs : List Value} (h : w.ownsRow 0 e size v n xs) (k : ∀ g, v.ownBlock = some g → base ≤ g) : w.ownsRow base e size v n xs := by
  obtain ⟨h1, h2⟩ := h
  refine ⟨h1, h2.imp id ?_⟩
  rintro ⟨b, cap, cur, rfl, _, h3⟩
  exact ⟨b, cap, cur, rfl, k b rfl, h3⟩
theorem own_mods {S : Nat → Prop} {w w' : World} {e : TypeId} {size base n : Nat} {v : Value} {xs : List Value} (h : w.ownsRow base e size v n xs) (k : Mod S w w') (hS : ∀ g, S g → g < base) : w'.ownsRow base e size v n xs :=
  own_atleast (Rq.mod (Q := fun g => g < base) ⟨own_base h (Nat.zero_le _), fun g hg hq => by have := (own_lt h hg).1; omega⟩ k fun g _ hs => hS g hs).1 fun g hg => (own_lt h hg).1
theorem TickR.next {Q : Nat → Prop} {w w1 wr w' : World} {s l a b m t : Nat} {tv : Value} {h h2 : ShL} {kv : Value} {j : Nat} {u : Value} (R : TickR Q w w1 s l a b m t tv h kv j u wr) (hold : ∀ g, (g = a ∨ g = b ∨ g = m ∨ g = t ∨ tv.ownBlock = some g) → g < w.heap.size) (e : h.ticks (h.keys.take (j + 1)) = (h2, (h.ticks (h.keys.take j)).2 ++ [])) (hS : ShardAt Q w' s l a b m t tv h2) (hD : Did a b m t tv tv wr w') : TickR Q w w1 s l a b m t tv h kv (j + 1) u w' := by
  obtain ⟨r1, r2, r3, r4⟩ := R
  refine ⟨?_, r2.trans hD, own_mods r3 hD.mod hold, ?_⟩
  · rw [e]; exact hS
  · rw [e, List.append_nil]; exact own_mods r4 hD.mod hold
theorem tick_asks {h : ShL} (g : Int) (x : StL) (k : Int) (ps : List Nat) : (h.set g x).asks k ps = h.asks k ps := rfl
theorem tickR_out {Q : Nat → Prop} {w w1 wr w2 w3 : World} {s l a b m t : Nat} {tv : Value} {h h2 : ShL} {kv : Value} {j : Nat} {u v : Value} {ms : List MsgL} (R : TickR Q w w1 s l a b m t tv h kv j u wr) (hold : ∀ g, (g = a ∨ g = b ∨ g = m ∨ g = t ∨ tv.ownBlock = some g) → g < w.heap.size) (hS : ShardAt Q w2 s l a b m t tv h2) (hD : Did a b m t tv tv wr w2)
    (hu : w2.ownsRow w.heap.size 28 7 u (h.ticks (h.keys.take j)).2.length ((h.ticks (h.keys.take j)).2.flatMap bareM)) (e : h.ticks (h.keys.take (j + 1)) = (h2, (h.ticks (h.keys.take j)).2 ++ ms))
    (hown : w3.ownsRow w.heap.size 28 7 v ((h.ticks (h.keys.take j)).2.length + ms.length) ((h.ticks (h.keys.take j)).2.flatMap bareM ++ ms.flatMap bareM)) (hg : w2.grownBy w3 u.ownBlock) : TickR Q w w1 s l a b m t tv h kv (j + 1) v w3 := by
  have hty : ∀ g, u.ownBlock = some g → ∃ cs, w2.heap[g]? = some (.cells cs 28 (0, 0)) := own_typed hu
  have hm : Mod (fun g => u.ownBlock = some g) w2 w3 := Mod.of_grown hg fun g hg => .inl hg
  obtain ⟨r1, r2, r3, r4⟩ := R
  have hk := own_mods r3 hD.mod hold
  refine ⟨?_, ⟨Mod.then (r2.trans hD).mod hm fun g hg => .inr (own_lt hu hg).1, .inl rfl⟩, hk.kept hg ?_, ?_⟩
  · rw [e]; exact hS.typed far_msg hm hty
  · cases hv : kv.ownBlock with
    | none => exact .inl rfl
    | some g =>
      refine .inr fun he => ?_
      obtain ⟨cs, hc⟩ := hty g he.symm
      exact own_other hk hc (by decide) hv
  · rw [e, MsgRow, List.length_append, List.flatMap_append]; exact hown
theorem tick1_skip {h : ShL} {g : Int} (e : h.st g = none ∨ h.st g = some .bound ∨ h.st g = some .aborted ∨ h.st g = some .freed) : h.tick1 g = (h, []) := by
  unfold ShL.tick1
  rcases e with e | e | e | e <;> rw [e]
theorem tick1_held1 {h : ShL} {g n : Int} (e : h.st g = some (.held n)) (hc : 0 < n - 1) : h.tick1 g = (h.set g (.held (n - 1)), []) := by
  unfold ShL.tick1
  rw [e]
  exact if_pos hc
theorem tick1_held0 {h : ShL} {g n : Int} (e : h.st g = some (.held n)) (hc : ¬ 0 < n - 1) : h.tick1 g = ({ h with led := h.led.give g, gangs := delK h.gangs g }, []) := by
  unfold ShL.tick1
  rw [e]
  exact if_neg hc
theorem tick1_prep {h : ShL} {g n : Int} {ps : List Nat} (e : h.st g = some (.prepared ps n)) : h.tick1 g = (h.set g (.prepared ps (n + 1)), if 4 ≤ n + 1 then h.asks g ps else []) := by
  unfold ShL.tick1
  rw [e]
set_option maxRecDepth 100000 in
set_option maxHeartbeats 4000000 in
theorem tick_any {Q : Nat → Prop} {w : World} {s l a b m t : Nat} {tv : Value} {h : ShL} (H : ShardAt Q w s l a b m t tv h) (hQ : ∀ g, Q g → g < w.heap.size) (hk : TickOk h) :
    Calls Tryz.prog 27 #[.pointer (some ⟨s, 0, none⟩)] w fun e w' => (∃ v, e = .returned v ∧ MsgRow w.heap.size w' v h.tick.2) ∧ ShPost Q w s l a b m t tv h.tick.1 w' := by
  have HH := Lib.hid (And.intro H (And.intro hQ hk))
  obtain ⟨es, hM, hA⟩ := H.gangs
  have hfst : es.map Prod.fst = h.gangs.map Prod.fst := hA.maps fun e n hn => hn.1
  have hlen : es.length = h.keys.length := by rw [ShL.keys_len, hA.len]
  have HS := Lib.hid (sortedG_any m w es hM (by have := hk.few; rw [hA.len]; omega) (fun p hp => by
    have : p.1 ∈ es.map Prod.fst := List.mem_map_of_mem hp
    rw [hfst] at this
    obtain ⟨q, hq, e⟩ := List.mem_map.1 this
    have := hk.ids q hq
    rw [← e]
    exact wf_small (by omega) (by omega)))
  have HN := Lib.hid (show isort leZ (es.map Prod.fst) = h.keys by rw [hfst]; rfl)
  have HLEN := Lib.hid hlen
  have e4 := cell_of_block H.z 4 (.map (some m)) rfl
  clear H hQ hk hM hA hfst hlen
  go_enter Tryz.func27, Tryz.ntmps27
  go_wp2_with fail
  refine (keysG_any (some m) w).mono ?_
  rintro e w1 ⟨rfl, rfl⟩
  go_wp2_with fail
  refine HS.out.mono ?_
  rintro e w1 ⟨vs, rfl, hrow, hb⟩
  rw [HN.out, HLEN.out] at hrow
  obtain ⟨va, vc, rfl⟩ := own_slicen hrow
  have hR0 : TickR Q w w1 s l a b m t tv h (.slice va h.keys.length vc) 0 (.slice none 0 0) w1 := ⟨HH.out.1.below hb, .of_below hb, hrow, MsgRow.nil _ _⟩
  have HR0 := Lib.hid hR0
  obtain ⟨N, hN⟩ : ∃ N, h.keys.length = N := ⟨_, rfl⟩
  have HNN := Lib.hid hN
  have hNB : N ≤ 1000000 := by rw [← hN, ShL.keys_len]; exact HH.out.2.2.few
  clear hrow hb hR0 e4
  rw [hN] at HR0
  rw [hN]
  clear hN
  go_wp2_with fail
  go_loopw [3, 15] (fun u i wr => ∃ j : Nat, i = .int .i64 j ∧ j ≤ N ∧ TickR Q w w1 s l a b m t tv h (.slice va N vc) j u wr) (fun _ i _ => N - (intOf i).toNat)
  case atStart => exact ⟨0, rfl, Nat.zero_le _, HR0.out⟩
  case round =>
    clear HR0
    obtain ⟨j, rfl, hj, hR⟩ := hrel
    have HR := Lib.hid hR
    clear hR
    by_cases hjl : j < N
    · have HJ := Lib.hid hjl
      have hjs : j < h.keys.length := by rw [HNN.out]; exact hjl
      have HNX := Lib.hid (ticks_next HH.out.2.2 hjs)
      have HSN := Lib.hid (show h.ticks (h.keys.take (j + 1)) = _ by rw [List.take_succ_eq_append_getElem hjs, ticks_snoc])
      obtain ⟨g, hg⟩ : ∃ g, h.keys[j] = g := ⟨_, rfl⟩
      have hcell : ∃ b0, va = some ⟨b0, 0, none⟩ ∧ wr.cell? ⟨b0, j, none⟩ = some (.int .i64 g) := by
        have hr := HR.out.keys
        rw [HNN.out] at hr
        rcases own_forms hr with ⟨e, h0, _⟩ | ⟨b0, cap, e, _⟩
        · omega
        · injection e with e1 e2 e3
          subst e1 e3
          refine ⟨b0, rfl, ?_⟩
          rw [hr.cellAt j (by omega), List.getElem?_map, List.getElem?_eq_getElem hjs, hg]
          rfl
      obtain ⟨b0, rfl, hcell⟩ := hcell
      rw [hg] at HNX HSN
      have HG := Lib.hid hg
      obtain ⟨v, hl, hv⟩ := HR.out.sh.look g
      have hl := hl wr rfl
      rw [HNX.out] at hv
      obtain ⟨y1, hy1, hth⟩ := ta_held hv
      obtain ⟨x0, y0, ⟨xa, xn, xc, rfl⟩, hy0, htp⟩ := ta_prep hv
      have e4 := cell_of_block HR.out.sh.z 4 (.map (some m)) rfl
      have hj0 : (0 : Int) ≤ (j : Int) := by omega
      have hj1 : (j : Int) < (N : Int) := by omega
      have HY := Lib.hid (And.intro hy1 hy0)
      obtain ⟨so, hso⟩ : ∃ so, h.st g = so := ⟨_, rfl⟩
      have HSO := Lib.hid hso
      rw [hso] at hth htp HNX HY
      clear hv hso hy1 hy0 hg
      rcases so with _ | st
      case none =>
        simp only [isHeld, isPrep] at hth htp
        have HT1 := Lib.hid (tick1_skip (by first | exact .inl HNX.out | exact .inr (.inl HNX.out) | exact .inr (.inr (.inl HNX.out)) | exact .inr (.inr (.inr HNX.out))) : (h.ticks (h.keys.take j)).1.tick1 g = _)
        go_wp2
        go_roundw
        case rel => exact ⟨j + 1, by go_num, HJ.out, HR.out.skip (by rw [HSN.out, HT1.out])⟩
        case measure => have := HJ.out; simp [intOf]; omega
      rcases st with n | ⟨ps, n⟩ | _ | _ | _
      all_goals simp only [isHeld, isPrep] at hth htp
      case bound =>
        have HT1 := Lib.hid (tick1_skip (by first | exact .inl HNX.out | exact .inr (.inl HNX.out) | exact .inr (.inr (.inl HNX.out)) | exact .inr (.inr (.inr HNX.out))) : (h.ticks (h.keys.take j)).1.tick1 g = _)
        go_wp2
        go_roundw
        case rel => exact ⟨j + 1, by go_num, HJ.out, HR.out.skip (by rw [HSN.out, HT1.out])⟩
        case measure => have := HJ.out; simp [intOf]; omega
      case aborted =>
        have HT1 := Lib.hid (tick1_skip (by first | exact .inl HNX.out | exact .inr (.inl HNX.out) | exact .inr (.inr (.inl HNX.out)) | exact .inr (.inr (.inr HNX.out))) : (h.ticks (h.keys.take j)).1.tick1 g = _)
        go_wp2
        go_roundw
        case rel => exact ⟨j + 1, by go_num, HJ.out, HR.out.skip (by rw [HSN.out, HT1.out])⟩
        case measure => have := HJ.out; simp [intOf]; omega
      case freed =>
        have HT1 := Lib.hid (tick1_skip (by first | exact .inl HNX.out | exact .inr (.inl HNX.out) | exact .inr (.inr (.inl HNX.out)) | exact .inr (.inr (.inr HNX.out))) : (h.ticks (h.keys.take j)).1.tick1 g = _)
        go_wp2
        go_roundw
        case rel => exact ⟨j + 1, by go_num, HJ.out, HR.out.skip (by rw [HSN.out, HT1.out])⟩
        case measure => have := HJ.out; simp [intOf]; omega
      case held =>
        obtain rfl : y1 = n := HY.out.1 n rfl
        obtain ⟨hn0, hn1⟩ := HH.out.2.2.held g y1 HSO.out
        go_upto_region 8 with fail
        have z1 := alloc_at wr (.cells #[.int .i64 y1] 96)
        have hb1 : Below wr.heap.size wr (wr.alloc (.cells #[.int .i64 y1] 96)) := below_alloc' (Below.refl _ _) _
        generalize World.alloc wr _ = w3 at z1 hb1 ⊢
        have k0 := cell_of_block z1 0 _ rfl
        have kf := free_of_block z1
        have HZ3 := Lib.hid (And.intro hb1 z1)
        clear hb1 z1 e4 hl
        go_upto_region 9 with fail
        have hz4 := setAt (j := 0) (v := .int .i64 (y1 - 1)) HZ3.out.2 (ds := #[.int .i64 (y1 - 1)]) rfl
        have hb4 := (HZ3.out.1).setCell (p := ⟨wr.heap.size, 0, none⟩) (Nat.le_refl _) (.int .i64 (y1 - 1))
        generalize World.setCell w3 _ _ = w4 at hz4 hb4 ⊢
        have k1 := cell_of_block hz4 0 _ rfl
        have HZ4 := Lib.hid (And.intro hb4 hz4)
        clear k0 kf hz4 hb4
        have HS4 := Lib.hid (HR.out.sh.below HZ4.out.1)
        by_cases hc : 1 < y1
        · have HT1 := Lib.hid (tick1_held1 HNX.out (by omega))
          go_upto_region 10 with fail
          have hfA : ∀ w6, Below w4.heap.size w4.drew w6 → Below w4.heap.size w4 w6 := fun w6 hb => (Below.refl w4.heap.size w4).drew.trans hb
          have HFA := Lib.hid hfA
          clear hfA
          refine' Par.wp_region_pars (fun w w' => Below w.heap.size w w') 7 (by kernel_rfl) (by kernel_rfl) (by kernel_rfl) (by kernel_rfl) (by kernel_rfl) (by kernel_rfl)
            (fun w => Below.refl _ w) (fun h k => below_call h k) (fun vals => ?_)
          rotate_left
          simp only [List.take_succ_cons, List.take_zero, List.drop_succ_cons, List.drop_zero]
          iterate 3 (apply Par.par_x rfl; (focus (intro w6 hR hD K hK; replace hK := Lib.hid hK; skip; clear hR hD; go_simp; exact hK.out _ (Below.refl _ _))); simp only [Act.put, List.setIfInBounds_toArray, List.set_cons_zero, List.set_cons_succ, Nat.reduceAdd, List.cons_append, List.nil_append])
          (apply Par.par_x rfl; (focus (intro w6 hR hD K hK; replace hK := Lib.hid hK; have e0 := cell_of_block (HS4.out.below (HFA.out w6 hR)).z 4 (.map (some m)) rfl; clear hR hD; go_simp; exact hK.out _ (Below.refl _ _))); simp only [Act.put, List.setIfInBounds_toArray, List.set_cons_zero, List.set_cons_succ, Nat.reduceAdd, List.cons_append, List.nil_append])
          (apply Par.par_x rfl; (focus (intro w6 hR hD K hK; replace hK := Lib.hid hK; skip; clear hR hD; go_simp; exact hK.out _ (Below.refl _ _))); simp only [Act.put, List.setIfInBounds_toArray, List.set_cons_zero, List.set_cons_succ, Nat.reduceAdd, List.cons_append, List.nil_append])
          (apply Par.par_x rfl; (focus (intro w6 hR hD K hK; replace hK := Lib.hid hK; have e0 := cell_of_block (block_below HZ4.out.2 (HFA.out w6 hR)) 0 (.int .i64 (y1 - 1)) rfl; clear hR hD; go_simp; exact hK.out _ (Below.refl _ _))); simp only [Act.put, List.setIfInBounds_toArray, List.set_cons_zero, List.set_cons_succ, Nat.reduceAdd, List.cons_append, List.nil_append])
          (apply Par.par_x rfl; (focus (intro w6 hR hD K hK; replace hK := Lib.hid hK; skip; clear hR hD; go_simp; exact hK.out _ (Below.refl _ _))); simp only [Act.put, List.setIfInBounds_toArray, List.set_cons_zero, List.set_cons_succ, Nat.reduceAdd, List.cons_append, List.nil_append])
          refine Par.par_end fun w7 hR hp => ?_
          have hb7 := HFA.out w7 hR
          obtain ⟨w8, hr8, hS8, hD8⟩ := (HS4.out.below hb7).put g (sv := .iface 96 (.agg #[.int .i64 (y1 - 1)])) (st := .held (y1 - 1)) rfl
          have HB7 := Lib.hid (below_call HZ4.out.1 hb7)
          have HS8 := Lib.hid (And.intro hS8 hD8)
          clear hS8 hD8 hp hR HFA hb7 k1
          go_wp2
          exact ⟨⟨j + 1, by go_num, HJ.out, HR.out.next HH.out.1.old (by rw [HSN.out, HT1.out]) HS8.out.1 ((Did.of_below HB7.out).trans HS8.out.2)⟩, by have := HJ.out; simp [intOf]; omega⟩
        · have HT1 := Lib.hid (tick1_held0 HNX.out (show ¬ 0 < y1 - 1 by omega))
          have e3 := cell_of_block HS4.out.z 3 (.pointer (some ⟨l, 0, none⟩)) rfl
          go_wp2_with fail
          refine (lgive_any Q w4 l a b _ HS4.out.led g).mono ?_
          rintro e w5 ⟨rfl, hL, hM⟩
          have hS5 := HS4.out.with_led hL hM
          obtain ⟨w6, hr, hS6, hD6⟩ := hS5.drop g 0
          have HS6 := Lib.hid (And.intro hS6 (((Did.of_below HZ4.out.1).trans (.of_mod hM fun g hg => .inr (.inl hg))).trans hD6))
          have e4 := cell_of_block hS5.z 4 (.map (some m)) rfl
          clear hL hM hS5 hS6 hD6 e3
          go_wp2
          exact ⟨⟨j + 1, by go_num, HJ.out, HR.out.next HH.out.1.old (by rw [HSN.out, HT1.out]) HS6.out.1 HS6.out.2⟩, by have := HJ.out; simp [intOf]; omega⟩
      case prepared =>
        obtain ⟨rfl, hpe⟩ := HY.out.2 ps n rfl
        obtain ⟨hn0, hn1, hpl⟩ := HH.out.2.2.prep g ps y0 HSO.out
        obtain ⟨xa, xc, hxx⟩ := own_slicen hpe.1
        injection hxx with hx1 hx2 hx3
        subst hx1 hx2 hx3
        have HPE := Lib.hid hpe
        clear hpe
        go_upto_region 15 with fail
        have z1 := alloc_at wr (.cells #[.slice xa ps.length xc, .int .i64 y0] 98)
        have hb1 : Below wr.heap.size wr (wr.alloc (.cells #[.slice xa ps.length xc, .int .i64 y0] 98)) := below_alloc' (Below.refl _ _) _
        generalize World.alloc wr _ = w3 at z1 hb1 ⊢
        have k0 := cell_of_block z1 1 _ rfl
        have kf := free_of_block z1
        have HZ3 := Lib.hid (And.intro hb1 z1)
        clear hb1 z1 e4 hl
        go_upto_region 16 with fail
        have hz4 := setAt (j := 1) (v := .int .i64 (y0 + 1)) HZ3.out.2 (ds := #[.slice xa ps.length xc, .int .i64 (y0 + 1)]) rfl
        have hb4 := (HZ3.out.1).setCell (p := ⟨wr.heap.size, 1, none⟩) (Nat.le_refl _) (.int .i64 (y0 + 1))
        generalize World.setCell w3 _ _ = w4 at hz4 hb4 ⊢
        obtain ⟨y2, hy2⟩ : ∃ y2, y0 + 1 = y2 := ⟨_, rfl⟩
        have HT1 := Lib.hid (tick1_prep HNX.out)
        rw [hy2] at hz4 HT1
        rw [hy2]
        have HZ4 := Lib.hid (And.intro hb4 hz4)
        clear k0 kf hz4 hb4 hy2
        have HS4 := Lib.hid (HR.out.sh.below HZ4.out.1)
        have hfA : ∀ w6, Below w4.heap.size w4.drew w6 → Below w4.heap.size w4 w6 := fun w6 hb => (Below.refl w4.heap.size w4).drew.trans hb
        have HFA := Lib.hid hfA
        clear hfA
        refine' Par.wp_region_pars (fun w w' => Below w.heap.size w w') 7 (by kernel_rfl) (by kernel_rfl) (by kernel_rfl) (by kernel_rfl) (by kernel_rfl) (by kernel_rfl)
          (fun w => Below.refl _ w) (fun h k => below_call h k) (fun vals => ?_)
        rotate_left
        simp only [List.take_succ_cons, List.take_zero, List.drop_succ_cons, List.drop_zero]
        iterate 3 (apply Par.par_x rfl; (focus (intro w6 hR hD K hK; replace hK := Lib.hid hK; skip; clear hR hD; go_simp; exact hK.out _ (Below.refl _ _))); simp only [Act.put, List.setIfInBounds_toArray, List.set_cons_zero, List.set_cons_succ, Nat.reduceAdd, List.cons_append, List.nil_append])
        (apply Par.par_x rfl; (focus (intro w6 hR hD K hK; replace hK := Lib.hid hK; have e0 := cell_of_block (HS4.out.below (HFA.out w6 hR)).z 4 (.map (some m)) rfl; clear hR hD; go_simp; exact hK.out _ (Below.refl _ _))); simp only [Act.put, List.setIfInBounds_toArray, List.set_cons_zero, List.set_cons_succ, Nat.reduceAdd, List.cons_append, List.nil_append])
        (apply Par.par_x rfl; (focus (intro w6 hR hD K hK; replace hK := Lib.hid hK; skip; clear hR hD; go_simp; exact hK.out _ (Below.refl _ _))); simp only [Act.put, List.setIfInBounds_toArray, List.set_cons_zero, List.set_cons_succ, Nat.reduceAdd, List.cons_append, List.nil_append])
        (apply Par.par_x rfl; (focus (intro w6 hR hD K hK; replace hK := Lib.hid hK; have e0 := cell_of_block (block_below HZ4.out.2 (HFA.out w6 hR)) 0 (.slice xa ps.length xc) rfl; have e1 := cell_of_block (block_below HZ4.out.2 (HFA.out w6 hR)) 1 (.int .i64 (y2)) rfl; clear hR hD; go_simp; exact hK.out _ (Below.refl _ _))); simp only [Act.put, List.setIfInBounds_toArray, List.set_cons_zero, List.set_cons_succ, Nat.reduceAdd, List.cons_append, List.nil_append])
        (apply Par.par_x rfl; (focus (intro w6 hR hD K hK; replace hK := Lib.hid hK; skip; clear hR hD; go_simp; exact hK.out _ (Below.refl _ _))); simp only [Act.put, List.setIfInBounds_toArray, List.set_cons_zero, List.set_cons_succ, Nat.reduceAdd, List.cons_append, List.nil_append])
        refine Par.par_end fun w7 hR hp => ?_
        have hb7 := HFA.out w7 hR
        have hpe7 := HPE.out.below (below_call HZ4.out.1 hb7)
        obtain ⟨w8, hr8, hS8, hD8⟩ := (HS4.out.below hb7).put g (sv := .iface 98 (.agg #[.slice xa ps.length xc, .int .i64 (y2)])) (st := .prepared ps (y2)) ⟨_, rfl, hpe7⟩
        have hz8 := hD8.mod.block' (block_below HZ4.out.2 hb7) fun e => by have := HH.out.1.old _ e; have := HR.out.did.mod.size; omega
        have HB7 := Lib.hid (below_call HZ4.out.1 hb7)
        have HZ8 := Lib.hid hz8
        have HP8 := Lib.hid (((hpe7.ex (by decide)).mod hD8.mod ((HS4.out.below hb7).inEx)).sub fun g _ hq => .inl hq)
        have HS8 := Lib.hid (And.intro hS8 ((Did.of_below HB7.out).trans hD8))
        have k0 := cell_of_block hz8 0 _ rfl
        have k1 := cell_of_block hz8 1 _ rfl
        clear hz8 hS8 hD8 hpe7 hb7 hp hR HFA
        by_cases hc : 4 ≤ y2
        · have HA := Lib.hid (show h.ticks (h.keys.take (j + 1)) = (((h.ticks (h.keys.take j)).1.set g (.prepared ps y2)), (h.ticks (h.keys.take j)).2 ++ (h.ticks (h.keys.take j)).1.asks g ps) by rw [HSN.out, HT1.out]; simp only [if_pos hc])
          go_wp2_with fail
          refine (asks_any HS8.out.1 g y2 HP8.out hpl).mono ?_
          rintro e w9 ⟨v9, rfl, hm9, hb9⟩
          rcases own_forms hm9 with ⟨_, h0, _⟩ | ⟨g9, c9, rfl, hg9, hg9'⟩
          · exact absurd h0 (Nat.succ_ne_zero _)
          have HM9 := Lib.hid hm9
          have HO9 := Lib.hid (own_below (own_mods HR.out.out HS8.out.2.mod HH.out.1.old) hb9)
          have HS9 := Lib.hid (And.intro (HS8.out.1.below hb9) (HS8.out.2.trans (.of_below hb9)))
          have HU := Lib.hid (ticks_outs HH.out.2.2 j (Nat.le_of_lt hjs))
          have HL9 := Lib.hid (asks_len (h.ticks (h.keys.take j)).1 g ps)
          have HME := Lib.hid (tick_asks (h := (h.ticks (h.keys.take j)).1) g (.prepared ps y2) g ps)
          clear hm9 hb9 hg9 hg9' k0 k1
          go_wp2_with (at_builtin; refine list_appends elt_msgs _ _ rfl rfl rfl rfl HO9.out (news := (((h.ticks (h.keys.take j)).1.set g (.prepared ps y2)).asks g ps).flatMap bareM) HM9.out.1 (own_cells HM9.out) (one_bareM _) (by have := HU.out; have := HL9.out; rw [HME.out]; omega) (by have := HS9.out.2.mod.size; have := HR.out.did.mod.size; omega) ?_; intro v'' w'' hown hgrow; have HO := Lib.hid (And.intro hown hgrow); clear hown hgrow)
          refine ⟨⟨j + 1, by go_num, HJ.out, ?_⟩, by have := HJ.out; simp [intOf]; omega⟩
          exact tickR_out HR.out HH.out.1.old HS9.out.1 HS9.out.2 HO9.out HA.out HO.out.1 HO.out.2
        · have HA := Lib.hid (show h.ticks (h.keys.take (j + 1)) = (((h.ticks (h.keys.take j)).1.set g (.prepared ps y2)), (h.ticks (h.keys.take j)).2 ++ []) by rw [HSN.out, HT1.out]; simp only [if_neg hc])
          go_wp2
          exact ⟨⟨j + 1, by go_num, HJ.out, HR.out.next HH.out.1.old HA.out HS8.out.1 HS8.out.2⟩, by have := HJ.out; simp [intOf]; omega⟩
    · obtain rfl : j = N := by omega
      have hfull : h.keys.take j = h.keys := List.take_of_length_le (by rw [HNN.out]; exact Nat.le_refl _)
      have HU := Lib.hid (ticks_outs HH.out.2.2 j (by rw [HNN.out]; exact Nat.le_refl _))
      have HT := Lib.hid (show h.tick = h.ticks (h.keys.take j) by rw [hfull]; rfl)
      clear hfull
      go_wp2_with fail
      refine (clone_msgs wr _ _ _ _ HR.out.out (one_bareM _) (by have := HU.out; omega)).mono ?_
      rintro e w2 ⟨v', rfl, ho, hb⟩
      have HO := Lib.hid (And.intro ho hb)
      clear ho hb
      go_wp2
      go_ret
      rw [HT.out]
      exact ⟨⟨_, rfl, own_base HO.out.1 HR.out.did.mod.size⟩, tv, HR.out.sh.below HO.out.2, HR.out.did.trans (.of_below HO.out.2)⟩
end Go.Proofs.YtofofjfmhaggmaaGreatDoor
