/- Where a gang goes, what a shard does: plain. -/
import Derived.Test.YtofofjfmhaggmaaGreatDoorVs
import Derived.Test.YtofofjfmhaggmaaGreatDoorMr
import Derived.Test.YtofofjfmhaggmaaGreatDoorLq
set_option linter.unusedVariables false
set_option linter.unusedSimpArgs false
namespace Go.Proofs.YtofofjfmhaggmaaGreatDoor

/-! ### Fit, pack -/
def inW (l : List (List UInt8)) (x : List UInt8) : Bool := l.any fun y => decide (y = x)
def allW (of l : List (List UInt8)) : Bool := of.all (inW l)
/-- Why a pod may not stand on a node; 0: it may. -/
def whyL (p : PodL) (n : NodeL) (c m : Nat) (near : List PlaceL) : Int :=
  if n.closed then 1 else if allW p.picks n.marks = false then 2 else if allW n.taints p.bears = false then 3
  else if (decide (c + p.cpu ≤ n.cpu) && decide (m + p.mem ≤ n.mem)) = false then 4 else if p.alone = true ∧ near ≠ [] then 5 else if near.any PlaceL.alone then 6 else 0
section
variable (L : LedL) (mode : Int)
def ucpu (own : List PlaceL) (n : NodeL) : Nat := L.cpu n.name + cpuS (onP n.name own)
def umem (own : List PlaceL) (n : NodeL) : Nat := L.mem n.name + memS (onP n.name own)
def upods (own : List PlaceL) (n : NodeL) : Nat := L.pods n.name + (onP n.name own).length
def candL (own : List PlaceL) (p : PodL) (ns : List NodeL) : List NodeL := ns.filter fun n => decide (whyL p n (ucpu L own n) (umem L own n) (onP n.name own) = 0)
def scoreN (own : List PlaceL) (p : PodL) (n : NodeL) : Int := scoreF mode (leftF n.cpu n.mem (ucpu L own n) (umem L own n) p.cpu p.mem) (upods L own n)
def placeL (own : List PlaceL) (p : PodL) : Option PlaceL :=
  let cs := candL L own p L.sorted
  let b := bestTo (cs.map fun n => str n.name) (cs.map (scoreN L mode own p)) cs.length
  if b < 0 then none else some ⟨p.name, (cs.getD b.toNat noNodeL).name, p.cpu, p.mem, p.alone⟩
def allL (own : List PlaceL) : List PodL → Option (List PlaceL)
  | [] => some own
  | p :: ps => match placeL L mode own p with
    | none => none
    | some x => allL (own ++ [x]) ps
/-- What packing answers, and where the pods go. -/
def packE (g : Int) (ps : List PodL) : Int :=
  if L.get g ≠ [] then 4 else if ps = [] then 3 else match allL L mode [] ps with
    | none => 6
    | some out => L.errTake g out
def packL (g : Int) (ps : List PodL) : LedL :=
  if packE L mode g ps = 0 then (match allL L mode [] ps with | none => L | some out => L.take g out) else L
end

/-! ### Shards -/
inductive StL where
  | held (lease : Int)
  | prepared (peers : List Nat) (age : Int)
  | bound
  | aborted
  | freed
structure MsgL where
  kind : Int
  src : Int
  dst : Int
  gang : Int
  pods : List PodL
  peers : List Nat
  yes : Bool
structure ShL where
  me : Int
  mode : Int
  led : LedL
  gangs : List (Int × StL)
  recs : List RecL
  lasting : Nat
def ShL.st (s : ShL) (g : Int) : Option StL := getK s.gangs g
def ShL.set (s : ShL) (g : Int) (x : StL) : ShL := { s with gangs := setK s.gangs g x }
def stN : Option StL → Int
  | none => 0
  | some (.held _) => 1
  | some (.prepared _ _) => 2
  | some .bound => 3
  | some .aborted => 4
  | some .freed => 5
def ShL.write (s : ShL) (r : RecL) : ShL := { s with recs := s.recs ++ [r] }
def ShL.sync (s : ShL) : ShL := { s with lasting := s.recs.length }
def ShL.force (s : ShL) (r : RecL) : ShL := (s.write r).sync
def recN (n : NodeL) : RecL := ⟨1, 0, [], [], n⟩
def recP (g : Int) (peers : List Nat) (ps : List PlaceL) : RecL := ⟨3, g.toNat, peers, ps, noNodeL⟩
def recG (k : Nat) (g : Int) : RecL := ⟨k, g.toNat, [], [], noNodeL⟩
def ShL.node (s : ShL) (n : NodeL) : ShL := if s.led.errPut n = 0 then { s with led := s.led.put n }.force (recN n) else s
def ShL.gone (s : ShL) (nm : List UInt8) : ShL := if s.led.errGone nm = 0 then { s with led := s.led.gone nm }.force ⟨2, 0, [], [], { noNodeL with name := nm }⟩ else s
/-- A gang's room is given back. -/
def ShL.fin (s : ShL) (g : Int) (x : StL) : ShL := { s with led := s.led.give g }.set g x
def ShL.hold (s : ShL) (m : MsgL) : ShL × Bool :=
  match s.st m.gang with
  | none => if packE s.led s.mode m.gang m.pods = 0 then ({ s with led := packL s.led s.mode m.gang m.pods }.set m.gang (.held 6), true) else (s, false)
  | some (.held _) => (s.set m.gang (.held 6), true)
  | some .aborted => (s, false)
  | _ => (s, true)
def ShL.prepare (s : ShL) (m : MsgL) : ShL × Bool :=
  match s.st m.gang with
  | none => (s, false)
  | some .aborted => (s, false)
  | some (.held _) => ((s.force (recP m.gang m.peers (s.led.get m.gang))).set m.gang (.prepared m.peers 0), true)
  | _ => (s, true)
def ShL.commit (s : ShL) (g : Int) : ShL :=
  match s.st g with
  | some (.prepared _ _) => (s.force (recG 4 g)).set g .bound
  | _ => s
def ShL.drop (s : ShL) (g : Int) : ShL := (s.write (recG 5 g)).fin g .aborted
def ShL.decide (s : ShL) (m : MsgL) : ShL × Bool :=
  let s1 := if m.yes then s.commit m.gang else s
  match s1.st m.gang with
  | some .bound => (s1, m.yes)
  | some .freed => (s1, m.yes)
  | some (.held _) => if m.yes then (s1, false) else (s1.drop m.gang, true)
  | some (.prepared _ _) => if m.yes then (s1, false) else (s1.drop m.gang, true)
  | _ => (s1, !m.yes)
def ShL.ask (s : ShL) (m : MsgL) : ShL × Bool × Bool :=
  match s.st m.gang with
  | some (.prepared _ _) => (s, false, false)
  | some .bound => (s, true, true)
  | some .freed => (s, true, true)
  | some .aborted => (s, false, true)
  | _ => ((s.drop m.gang).sync, false, true)
def ShL.told (s : ShL) (m : MsgL) : ShL :=
  match s.st m.gang with
  | some (.prepared _ _) => if m.yes then s.commit m.gang else s.drop m.gang
  | _ => s
def ShL.free (s : ShL) (g : Int) : ShL × Bool :=
  let s1 := s.commit g
  match s1.st g with
  | some .freed => (s1, true)
  | some .bound => ((s1.force (recG 6 g)).fin g .freed, true)
  | _ => (s1, false)
def ShL.ans (s : ShL) (m : MsgL) (kind : Int) (yes is : Bool) : List MsgL := if is then [⟨kind, s.me, m.src, m.gang, [], [], yes⟩] else []
def ShL.get (s : ShL) (m : MsgL) : ShL × List MsgL :=
  if m.kind = 1 then ((s.hold m).1, s.ans m 2 (s.hold m).2 true)
  else if m.kind = 3 then ((s.prepare m).1, s.ans m 4 (s.prepare m).2 true)
  else if m.kind = 5 then ((s.decide m).1, s.ans m 6 false (s.decide m).2)
  else if m.kind = 7 then ((s.ask m).1, s.ans m 8 (s.ask m).2.1 (s.ask m).2.2)
  else if m.kind = 8 then (s.told m, [])
  else if m.kind = 9 then ((s.free m.gang).1, s.ans m 10 false (s.free m.gang).2)
  else (s, [])
def ShL.asks (s : ShL) (g : Int) (ps : List Nat) : List MsgL :=
  ⟨7, s.me, 0, g, [], [], false⟩ :: (ps.filter fun k => !((Int.ofNat k) == s.me)).map fun (k : Nat) => ⟨7, s.me, (k : Int), g, [], [], false⟩
def ShL.tick1 (s : ShL) (g : Int) : ShL × List MsgL :=
  match s.st g with
  | some (.held n) => if 0 < n - 1 then (s.set g (.held (n - 1)), []) else ({ s with led := s.led.give g, gangs := delK s.gangs g }, [])
  | some (.prepared ps n) => (s.set g (.prepared ps (n + 1)), if 4 ≤ n + 1 then s.asks g ps else [])
  | _ => (s, [])
def ShL.ticks (s : ShL) : List Int → ShL × List MsgL
  | [] => (s, [])
  | g :: l => (((s.tick1 g).1.ticks l).1, (s.tick1 g).2 ++ ((s.tick1 g).1.ticks l).2)
def ShL.keys (s : ShL) : List Int := isort leZ (s.gangs.map Prod.fst)
def ShL.tick (s : ShL) : ShL × List MsgL := s.ticks s.keys
end Go.Proofs.YtofofjfmhaggmaaGreatDoor
/-! Ranging over a map: the raw laws. -/
set_option linter.unusedVariables false
set_option linter.unusedSimpArgs false
namespace Go.Proofs.YtofofjfmhaggmaaGreatDoor
open Go.RowKit
open Go.ChangeMaps (setBlock)
open MapKept
section
variable {d : TypeDesc} {κ : Type} (c : Enc d κ)
/-- 'for k, v := range m' under way: block b is the map, block r the iterator; these entries are still to come. -/
def Ranges (w : World) (b r : Nat) (es left : List (κ × Value)) : Prop :=
  ∃ (E : Array MapEntry) (clock since c0 : Nat) (seen : Array Nat), w.heap[b]? = some (.map E clock) ∧ E.toList.map (fun e => (e.key, e.val)) = es.map (fun p => (c.f p.1, p.2)) ∧ Stamped E clock ∧
    w.heap[r]? = some (.mapIter (some b) since seen c0) ∧ (∀ x ∈ E.toList, x.born < since) ∧ since ≤ c0 ∧ since ≤ clock ∧ (leftOf E seen).toList.map (fun e => (e.key, e.val)) = left.map (fun p => (c.f p.1, p.2))
theorem Ranges.map {w : World} {b r : Nat} {es left : List (κ × Value)} (h : Ranges c w b r es left) : MapIs c w b es := by
  obtain ⟨E, cl, _, _, _, h1, h2, h3, _⟩ := h
  exact ⟨E, cl, h1, h2, h3⟩
theorem Ranges.lt {w : World} {b r : Nat} {es left : List (κ × Value)} (h : Ranges c w b r es left) : b < w.heap.size ∧ r < w.heap.size ∧ r ≠ b := by
  obtain ⟨E, cl, _, _, _, h1, h2, h3, h4, _⟩ := h
  exact ⟨(Array.getElem?_eq_some_iff.1 h1).1, (Array.getElem?_eq_some_iff.1 h4).1, fun e => by rw [e, h1] at h4; cases h4⟩
theorem Ranges.same {w w' : World} {b r : Nat} {es left : List (κ × Value)} (h : Ranges c w b r es left) (hb : w'.heap[b]? = w.heap[b]?) (hr : w'.heap[r]? = w.heap[r]?) : Ranges c w' b r es left := by
  obtain ⟨E, cl, s, c0, seen, h1, h2, h3, h4, h5⟩ := h
  exact ⟨E, cl, s, c0, seen, hb.trans h1, h2, h3, hr.trans h4, h5⟩
theorem Ranges.below {w w' : World} {b r : Nat} {es left : List (κ × Value)} (h : Ranges c w b r es left) (hb : Below w.heap.size w w') : Ranges c w' b r es left :=
  h.same c (hb.block b (h.lt c).1) (hb.block r (h.lt c).2.1)
theorem MapIs.range {P : Program} {t k e : TypeId} (ht : P.underlying t = some (.map k e)) {w : World} {b : Nat} {es : List (κ × Value)} (h : MapIs c w b es) :
    ∃ o, (Instr.range t (.map (some b))).run P w = .ok (.pointer (some ⟨w.heap.size, 0, none⟩)) (w.alloc o) ∧ Ranges c (w.alloc o) b w.heap.size es es := by
  have hlt := h.lt c
  obtain ⟨E, cl, hb, he, hs⟩ := h
  refine ⟨.mapIter (some b) cl #[] cl, run_range_map w t k e b E cl ht hb, E, cl, cl, cl, #[], block_below hb (below_alloc' (Below.refl _ _) _), he, hs, alloc_at _ _, hs.1, Nat.le_refl _, Nat.le_refl _, ?_⟩
  rw [← he]
  unfold leftOf
  rw [Array.toList_filter, List.filter_eq_self.2 (by simp)]
theorem left_push {E : Array MapEntry} {seen : Array Nat} (hn : (E.toList.map (·.born)).Nodup) {e : MapEntry} (he : e ∈ (leftOf E seen).toList) :
    ∃ l1 l2, (leftOf E seen).toList = l1 ++ e :: l2 ∧ (leftOf E (seen.push e.born)).toList = l1 ++ l2 := by
  obtain ⟨l1, l2, hl⟩ := List.append_of_mem he
  refine ⟨l1, l2, hl, ?_⟩
  have hsub : ((leftOf E seen).toList.map (·.born)).Nodup := by
    have : (leftOf E seen).toList.Sublist E.toList := by
      unfold leftOf
      rw [Array.toList_filter]
      exact List.filter_sublist
    exact (this.map _).nodup hn
  have e1 : (leftOf E (seen.push e.born)).toList = (leftOf E seen).toList.filter (fun x => x.born != e.born) := by
    unfold leftOf
    rw [Array.toList_filter, Array.toList_filter, List.filter_filter]
    refine List.filter_congr fun x hx => ?_
    rw [Array.contains_push]
    cases h1 : seen.contains x.born <;> cases h2 : (x.born == e.born) <;> simp_all
  rw [e1, hl, List.filter_append]
  rw [hl, List.map_append, List.map_cons, List.nodup_append, List.nodup_cons] at hsub
  obtain ⟨_, ⟨n1, _⟩, n2⟩ := hsub
  rw [List.filter_cons_of_neg (by simp), List.filter_eq_self.2, List.filter_eq_self.2]
  · intro x hx
    have : x.born ≠ e.born := fun h => n1 (h ▸ List.mem_map_of_mem hx)
    simpa using this
  · intro x hx
    have := n2 x.born (List.mem_map_of_mem hx) e.born (List.mem_cons_self)
    simpa using this
theorem Ranges.next {P : Program} {w : World} {b r : Nat} {es left : List (κ × Value)} (h : Ranges c w b r es left) (ty : TypeId) :
    (left = [] ∧ (Instr.next (.pointer (some ⟨r, 0, none⟩)) false ty).run P w = .ok (.tuple #[.bool false]) w) ∨
    ∃ l1 p l2 w', left = l1 ++ p :: l2 ∧ (Instr.next (.pointer (some ⟨r, 0, none⟩)) false ty).run P w = .ok (.tuple #[.bool true, c.f p.1, p.2]) w' ∧ Ranges c w' b r es (l1 ++ l2) ∧
      (w.grownBy w' (some r)) ∧ w'.heap.size = w.heap.size ∧ (Instr.entry (.pointer (some ⟨r, 0, none⟩))).run P w' = .ok (.tuple #[c.f p.1, p.2]) w' := by
  have hlt := h.lt c
  obtain ⟨E, cl, since, c0, seen, hb, he, hs, hr, hold, h1, h2, hleft⟩ := h
  rcases run_next_at (P := P) w ty r b since c0 seen E cl hr hb hold h1 with ⟨h0, hrun⟩ | ⟨e, hem, w1, hw1, hrun⟩
  · refine .inl ⟨?_, hrun⟩
    have : (leftOf E seen).toList = [] := by simpa using h0
    rw [this] at hleft
    simpa using hleft.symm
  · obtain ⟨l1, l2, hl, hl'⟩ := left_push hs.2.1 hem
    rw [hl, List.map_append, List.map_cons] at hleft
    obtain ⟨k1, k2, rfl, q1, q2⟩ := List.map_eq_append_iff.1 hleft.symm
    obtain ⟨p, k2', rfl, q3, q4⟩ := List.map_eq_cons_iff.1 q2
    have p1 : c.f p.1 = e.key := congrArg Prod.fst q3
    have p2 : p.2 = e.val := congrArg Prod.snd q3
    have hw1h : w1.heap = w.heap := by rcases hw1 with rfl | rfl <;> rfl
    have hw1r : r < w1.heap.size := by rw [hw1h]; exact hlt.2.1
    have heE : e ∈ E.toList := by
      unfold leftOf at hem
      rw [Array.toList_filter] at hem
      exact (List.mem_filter.1 hem).1
    have hR : (setBlock w1 r (.mapIter (some b) since (seen.push e.born) cl)).heap[r]? = some (.mapIter (some b) since (seen.push e.born) cl) := by simp [setBlock, hw1r]
    have hB : (setBlock w1 r (.mapIter (some b) since (seen.push e.born) cl)).heap[b]? = some (.map E cl) := by
      rw [setBlock_far w1 (Ne.symm hlt.2.2), hw1h]; exact hb
    refine .inr ⟨k1, p, k2', _, rfl, by rw [p1, p2]; exact hrun, ⟨E, cl, since, cl, seen.push e.born, hB, he, hs, hR, hold, h2, h2, ?_⟩, ?_, ?_, ?_⟩
    · rw [hl', List.map_append, List.map_append, q1, q4]
    · refine ⟨?_, ?_, ?_, ?_, fun i hi hne => ?_⟩
      · rcases hw1 with rfl | rfl <;> rfl
      · rcases hw1 with rfl | rfl <;> rfl
      · rcases hw1 with rfl | rfl <;> rfl
      · rw [size_setBlock, hw1h]; exact Nat.le_refl _
      · rw [setBlock_far w1 (fun e => hne (by rw [e])), hw1h]
    · rw [size_setBlock, hw1h]
    · rw [p1, p2]
      exact run_entry_at _ r b since seen E cl e hR hB heE hs.2.1
end
end Go.Proofs.YtofofjfmhaggmaaGreatDoor
/-! What a call may turn: a few blocks; all else stands. -/
set_option linter.unusedVariables false
set_option linter.unusedSimpArgs false
namespace Go.Proofs.YtofofjfmhaggmaaGreatDoor
open Go.RowKit

/-- Of what was there nothing but the blocks of S has turned. -/
structure Mod (S : Nat → Prop) (w w' : World) : Prop where
  os : w'.os = w.os
  tape : w'.tape = w.tape
  output : w'.output = w.output
  size : w.heap.size ≤ w'.heap.size
  block : ∀ g, g < w.heap.size → ¬ S g → w'.heap[g]? = w.heap[g]?
theorem Mod.refl (S : Nat → Prop) (w : World) : Mod S w w := ⟨rfl, rfl, rfl, Nat.le_refl _, fun _ _ _ => rfl⟩
theorem Mod.trans {S : Nat → Prop} {a b c : World} (h : Mod S a b) (k : Mod S b c) : Mod S a c :=
  ⟨k.os.trans h.os, k.tape.trans h.tape, k.output.trans h.output, Nat.le_trans h.size k.size, fun g hg hS => (k.block g (Nat.lt_of_lt_of_le hg h.size) hS).trans (h.block g hg hS)⟩
theorem Mod.of_below {S : Nat → Prop} {w w' : World} (h : Below w.heap.size w w') : Mod S w w' := ⟨h.os, h.tape, h.output, h.size, fun g hg _ => h.block g hg⟩
theorem Mod.sub {S T : Nat → Prop} {w w' : World} (h : Mod S w w') (k : ∀ g, g < w.heap.size → S g → T g) : Mod T w w' :=
  ⟨h.os, h.tape, h.output, h.size, fun g hg hT => h.block g hg fun hS => hT (k g hg hS)⟩
/-- One step more, that turns what S has, or what is new. -/
theorem Mod.then {S T : Nat → Prop} {a b c : World} (h : Mod S a b) (k : Mod T b c) (hT : ∀ g, T g → S g ∨ a.heap.size ≤ g) : Mod S a c :=
  ⟨k.os.trans h.os, k.tape.trans h.tape, k.output.trans h.output, Nat.le_trans h.size k.size, fun g hg hS => (k.block g (Nat.lt_of_lt_of_le hg h.size) (fun ht => (hT g ht).elim hS (fun h' => by omega))).trans (h.block g hg hS)⟩
theorem Mod.below {S : Nat → Prop} {w w' : World} (h : Mod S w w') (hS : ∀ g, S g → w.heap.size ≤ g) : Below w.heap.size w w' :=
  ⟨h.os, h.tape, h.output, h.size, fun g hg => h.block g hg fun hs => by have := hS g hs; omega⟩
theorem Mod.of_turn {S : Nat → Prop} {b : Nat} {w w' : World} (h : Turn b w w') (hb : S b) : Mod S w w' :=
  ⟨h.os, h.tape, h.output, Nat.le_of_eq h.size.symm, fun g _ hS => h.block g fun e => hS (e ▸ hb)⟩
theorem Mod.of_grown {S : Nat → Prop} {row : Option Nat} {w w' : World} (h : w.grownBy w' row) (hb : ∀ g, row = some g → S g ∨ w.heap.size ≤ g) : Mod S w w' :=
  ⟨h.os, h.tape, h.output, h.size, fun g hg hS => h.block g hg fun e => (hb g e.symm).elim hS (fun h' => by omega)⟩
theorem Mod.set {S : Nat → Prop} {w : World} {g j : Nat} (hg : S g ∨ w.heap.size ≤ g) (v : Value) : Mod S w (w.setCell ⟨g, j, none⟩ v) :=
  ⟨rfl, rfl, rfl, by simp, fun k hk hS => Below.heap_setCell _ _ _ _ fun e => by
    have e' : k = g := e
    subst e'
    exact hg.elim hS (fun h' => by omega)⟩
theorem Mod.drew {S : Nat → Prop} {w w' : World} (h : Mod S w w') : Mod S w w'.drew := ⟨h.os, h.tape, h.output, h.size, h.block⟩
theorem Mod.block' {S : Nat → Prop} {w w' : World} {g : Nat} {o : Obj} (h : Mod S w w') (hg : w.heap[g]? = some o) (hS : ¬ S g) : w'.heap[g]? = some o := (h.block g (Array.getElem?_eq_some_iff.1 hg).1 hS).trans hg
theorem Mod.cell {S : Nat → Prop} {w w' : World} {p : Addr} {v : Value} (h : Mod S w w') (hg : w.cell? p = some v) (hS : ¬ S p.block) : w'.cell? p = some v := by
  have := h.block p.block (World.block_lt_of_cell? w _ hg) hS
  simpa [World.cell?, this] using hg
theorem own_mod {S : Nat → Prop} {w w' : World} {base n size : Nat} {e : TypeId} {v : Value} {xs : List Value} (h : w.ownsRow base e size v n xs) (k : Mod S w w') (hS : ∀ g, v.ownBlock = some g → ¬ S g) : w'.ownsRow base e size v n xs := by
  obtain ⟨h1, h2⟩ := h
  refine ⟨h1, ?_⟩
  rcases h2 with h2 | ⟨g, cap, cur, rfl, h4, h5, h6⟩
  · exact .inl h2
  · exact .inr ⟨g, cap, cur, rfl, h4, k.block' h5 (hS g rfl), h6⟩
end Go.Proofs.YtofofjfmhaggmaaGreatDoor
/-! What memory holds of a ledger; what calls leave alone. -/
set_option linter.unusedVariables false
set_option linter.unusedSimpArgs false
namespace Go.Proofs.YtofofjfmhaggmaaGreatDoor
open Go.RowKit

/-- A row whose block, if it has one, is none of Q's. -/
def Rq (Q : Nat → Prop) (w : World) (e : TypeId) (size : Nat) (v : Value) (n : Nat) (xs : List Value) : Prop := w.ownsRow 0 e size v n xs ∧ ∀ g, v.ownBlock = some g → ¬ Q g
section
variable {Q Q' S : Nat → Prop} {w w' : World} {e : TypeId} {size n : Nat} {v : Value} {xs : List Value}
theorem own_lt {base : Nat} (h : w.ownsRow base e size v n xs) {g : Nat} (hg : v.ownBlock = some g) : base ≤ g ∧ g < w.heap.size := by
  rcases own_forms h with ⟨rfl, _⟩ | ⟨g', cap, rfl, h1, h2⟩
  · cases hg
  · injection hg with hg
    subst hg
    exact ⟨h1, h2⟩
theorem Rq.lt (h : Rq Q w e size v n xs) {g : Nat} (hg : v.ownBlock = some g) : g < w.heap.size := (own_lt h.1 hg).2
theorem Rq.mod (h : Rq Q w e size v n xs) (k : Mod S w w') (hS : ∀ g, g < w.heap.size → S g → Q g) : Rq Q w' e size v n xs :=
  ⟨own_mod h.1 k fun g hg hs => h.2 g hg (hS g (h.lt hg) hs), h.2⟩
theorem Rq.below (h : Rq Q w e size v n xs) (k : Below w.heap.size w w') : Rq Q w' e size v n xs := ⟨own_below h.1 k, h.2⟩
theorem Rq.sub (h : Rq Q w e size v n xs) (k : ∀ g, g < w.heap.size → Q' g → Q g) : Rq Q' w e size v n xs := ⟨h.1, fun g hg hq => h.2 g hg (k g (h.lt hg) hq)⟩
theorem Rq.new {base : Nat} (h : w.ownsRow base e size v n xs) (hQ : ∀ g, Q g → g < base) : Rq Q w e size v n xs :=
  ⟨own_base h (Nat.zero_le _), fun g hg hq => by have := (own_lt h hg).1; have := hQ g hq; omega⟩
end
def StrsQ (Q : Nat → Prop) (w : World) (v : Value) (l : List (List UInt8)) : Prop := Rq Q w 9 1 v l.length (l.map fun x => .string (str x))
theorem StrsQ.strs {Q : Nat → Prop} {w : World} {v : Value} {l : List (List UInt8)} (h : StrsQ Q w v l) : Strs 0 w v (l.map str) := by
  have := h.1
  unfold Strs
  rwa [List.length_map, List.map_map]
theorem StrsQ.of {Q : Nat → Prop} {base : Nat} {w : World} {v : Value} {l : List (List UInt8)} (h : Strs base w v (l.map str)) (hQ : ∀ g, Q g → g < base) : StrsQ Q w v l := by
  unfold Strs at h
  rw [List.length_map, List.map_map] at h
  exact Rq.new h hQ
def NodeQ (Q : Nat → Prop) (w : World) (v : Value) (n : NodeL) : Prop :=
  ∃ u x, v = .agg #[.string (str n.name), .int .i64 n.cpu, .int .i64 n.mem, u, x, .bool n.closed] ∧ StrsQ Q w u n.marks ∧ StrsQ Q w x n.taints
theorem NodeQ.at {Q : Nat → Prop} {w : World} {v : Value} {n : NodeL} (h : NodeQ Q w v n) : NodeAt 0 w v n := by
  obtain ⟨u, x, e, h1, h2⟩ := h
  exact ⟨u, x, e, h1.strs, h2.strs⟩
theorem NodeQ.of {Q : Nat → Prop} {base : Nat} {w : World} {v : Value} {n : NodeL} (h : NodeAt base w v n) (hQ : ∀ g, Q g → g < base) : NodeQ Q w v n := by
  obtain ⟨u, x, e, h1, h2⟩ := h
  exact ⟨u, x, e, .of h1 hQ, .of h2 hQ⟩
def placeV (p : PlaceL) : List Value := [.string (str p.pod), .string (str p.node), .int .i64 p.cpu, .int .i64 p.mem, .bool p.alone]
def PlacesQ (Q : Nat → Prop) (w : World) (v : Value) (l : List PlaceL) : Prop := Rq Q w 143 5 v l.length (l.flatMap placeV)
section
variable {Q Q' S : Nat → Prop} {w w' : World} {v : Value}
theorem NodeQ.mod {n : NodeL} (h : NodeQ Q w v n) (k : Mod S w w') (hS : ∀ g, g < w.heap.size → S g → Q g) : NodeQ Q w' v n := by
  obtain ⟨u, x, e, h1, h2⟩ := h
  exact ⟨u, x, e, h1.mod k hS, h2.mod k hS⟩
theorem NodeQ.below {n : NodeL} (h : NodeQ Q w v n) (k : Below w.heap.size w w') : NodeQ Q w' v n := by
  obtain ⟨u, x, e, h1, h2⟩ := h
  exact ⟨u, x, e, h1.below k, h2.below k⟩
theorem NodeQ.sub {n : NodeL} (h : NodeQ Q w v n) (k : ∀ g, g < w.heap.size → Q' g → Q g) : NodeQ Q' w v n := by
  obtain ⟨u, x, e, h1, h2⟩ := h
  exact ⟨u, x, e, h1.sub k, h2.sub k⟩
end
/-- A ledger at block l: its map of nodes at a, of places at b. -/
structure LedAt (Q : Nat → Prop) (w : World) (l a b : Nat) (L : LedL) : Prop where
  box : w.heap[l]? = some (.cells #[.map (some a), .map (some b)] 147 (0, 0))
  nodes : ∃ es, MapIs encS w a es ∧ All2 (fun e n => e.1 = str n.name ∧ NodeQ Q w e.2 n) es L.nodes
  taken : ∃ es, MapIs encI w b es ∧ All2 (fun e t => e.1 = t.1 ∧ PlacesQ Q w e.2 t.2) es L.taken
  ne : a ≠ b
  qa : Q a
  qb : Q b
  ql : ¬ Q l
section
variable {Q Q' S : Nat → Prop} {w w' : World} {l a b : Nat} {L : LedL}
theorem LedAt.lt (h : LedAt Q w l a b L) : l < w.heap.size ∧ a < w.heap.size ∧ b < w.heap.size := by
  obtain ⟨_, h2, _⟩ := h.nodes
  obtain ⟨_, h3, _⟩ := h.taken
  exact ⟨(Array.getElem?_eq_some_iff.1 h.box).1, h2.lt, h3.lt⟩
theorem LedAt.mod (h : LedAt Q w l a b L) (k : Mod S w w') (hS : ∀ g, g < w.heap.size → S g → Q g) (ha : ¬ S a) (hb : ¬ S b) : LedAt Q w' l a b L := by
  have hl := h.lt
  obtain ⟨h1, ⟨es, h2, h3⟩, ⟨fs, h4, h5⟩, ne, qa, qb, ql⟩ := h
  exact ⟨k.block' h1 fun hs => ql (hS l hl.1 hs), ⟨es, h2.same _ (k.block a hl.2.1 ha), h3.imp fun e n hn => ⟨hn.1, hn.2.mod k hS⟩⟩, ⟨fs, h4.same _ (k.block b hl.2.2 hb), h5.imp fun e n hn => ⟨hn.1, Rq.mod hn.2 k hS⟩⟩, ne, qa, qb, ql⟩
theorem LedAt.below (h : LedAt Q w l a b L) (k : Below w.heap.size w w') : LedAt Q w' l a b L := h.mod (S := fun _ => False) (Mod.of_below k) (fun _ _ h => h.elim) id id
theorem LedAt.sub (h : LedAt Q w l a b L) (k : ∀ g, g < w.heap.size → Q' g → Q g) (ha : Q' a) (hb : Q' b) : LedAt Q' w l a b L := by
  have hl := h.lt
  obtain ⟨h1, ⟨es, h2, h3⟩, ⟨fs, h4, h5⟩, ne, qa, qb, ql⟩ := h
  exact ⟨h1, ⟨es, h2, h3.imp fun e n hn => ⟨hn.1, hn.2.sub k⟩⟩, ⟨fs, h4, h5.imp fun e n hn => ⟨hn.1, Rq.sub hn.2 k⟩⟩, ne, ha, hb, fun hq => ql (k l hl.1 hq)⟩
end
end Go.Proofs.YtofofjfmhaggmaaGreatDoor
