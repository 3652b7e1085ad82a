/- Room taken, plain: what the walk of Take keeps. -/
import Derived.Test.YtofofjfmhaggmaaGreatDoorVj
set_option linter.unusedVariables false
set_option linter.unusedSimpArgs false
namespace Go.Proofs.YtofofjfmhaggmaaGreatDoor
open Go.RowKit

theorem getK_cons {κ α : Type} [DecidableEq κ] (p : κ × α) (es : List (κ × α)) (y : κ) : getK (p :: es) y = if p.1 = y then some p.2 else getK es y := by
  unfold getK
  rw [List.find?_cons]
  by_cases h : p.1 = y <;> simp [h]
theorem getK_map {κ α : Type} [DecidableEq κ] (x : κ) (v : α) (y : κ) : ∀ es : List (κ × α), getK (es.map fun p => if p.1 = x then (x, v) else p) y = if y = x then (if hasK es x then some v else none) else getK es y
  | [] => by
    simp [getK, hasK]
  | p :: es => by
    have ih := getK_map x v y es
    rw [List.map_cons, getK_cons, getK_cons, ih]
    have hh : hasK (p :: es) x = (decide (p.1 = x) || hasK es x) := by simp [hasK]
    rw [hh]
    by_cases h1 : p.1 = x
    · subst h1
      by_cases h2 : y = p.1
      · subst h2; simp
      · have : ¬ p.1 = y := fun e => h2 e.symm
        simp [h2, this]
    · by_cases h2 : y = x
      · subst h2; simp [h1]
      · simp [h1, h2]
theorem getK_app {κ α : Type} [DecidableEq κ] (q : κ × α) (y : κ) : ∀ es : List (κ × α), getK (es ++ [q]) y = if hasK es y then getK es y else if q.1 = y then some q.2 else none
  | [] => by simp [getK_cons, hasK, getK]
  | p :: es => by
    have hh : hasK (p :: es) y = (decide (p.1 = y) || hasK es y) := by simp [hasK]
    rw [List.cons_append, getK_cons, getK_app q y es, getK_cons, hh]
    by_cases h : p.1 = y <;> simp [h]
theorem getK_set {κ α : Type} [DecidableEq κ] (es : List (κ × α)) (x : κ) (v : α) (y : κ) : getK (setK es x v) y = if y = x then some v else getK es y := by
  unfold setK
  by_cases h : hasK es x = true
  · rw [if_pos h, getK_map, h]
    simp
  · rw [if_neg h, getK_app]
    by_cases e : y = x
    · subst e
      simp [h]
    · rw [if_neg e]
      have e' : ¬ x = y := fun h => e h.symm
      by_cases hy : hasK es y = true
      · rw [if_pos hy]
      · rw [if_neg hy, if_neg e']
        rw [hasK_get] at hy
        cases hg : getK es y with
        | none => rfl
        | some a => rw [hg] at hy; simp at hy
theorem Turn.gb {b : Nat} {w w' : World} (h : Turn b w w') : Gb b w w' := ⟨h.os, h.tape, h.output, Nat.le_of_eq h.size.symm, fun g hg hn => h.block g fun e => hn (by rw [e])⟩
theorem cpuS_bound {M : Nat} : ∀ {l : List PlaceL}, (∀ x ∈ l, x.cpu ≤ M) → cpuS l ≤ M * l.length
  | [], _ => by simp [cpuS]
  | x :: l, h => by
    have h1 := h x List.mem_cons_self
    have h2 := cpuS_bound (l := l) fun y hy => h y (List.mem_cons_of_mem _ hy)
    simp only [cpuS, List.map_cons, List.sum_cons, List.length_cons] at *
    rw [Nat.mul_add, Nat.mul_one]
    omega
theorem memS_bound {M : Nat} : ∀ {l : List PlaceL}, (∀ x ∈ l, x.mem ≤ M) → memS l ≤ M * l.length
  | [], _ => by simp [memS]
  | x :: l, h => by
    have h1 := h x List.mem_cons_self
    have h2 := memS_bound (l := l) fun y hy => h y (List.mem_cons_of_mem _ hy)
    simp only [memS, List.map_cons, List.sum_cons, List.length_cons] at *
    rw [Nat.mul_add, Nat.mul_one]
    omega
/-- Places that are not too many, nor too great. -/
def fewP (p : List PlaceL) : Prop := p.length ≤ 8 ∧ ∀ x ∈ p, x.cpu ≤ 1099511627776 ∧ x.mem ≤ 1099511627776
theorem onP_bound {p : List PlaceL} (h : fewP p) (nm : List UInt8) (k : Nat) : cpuS (onP nm (p.take k)) ≤ 8796093022208 ∧ memS (onP nm (p.take k)) ≤ 8796093022208 := by
  have hl : (onP nm (p.take k)).length ≤ 8 := Nat.le_trans (onP_len_le _ _) (Nat.le_trans (List.length_take_le' ..) h.1)
  have hm : ∀ x ∈ onP nm (p.take k), x ∈ p := fun x hx => List.mem_of_mem_take ((List.mem_filter.1 hx).1)
  have h1 := cpuS_bound (M := 1099511627776) fun x hx => (h.2 x (hm x hx)).1
  have h2 := memS_bound (M := 1099511627776) fun x hx => (h.2 x (hm x hx)).2
  omega
theorem LedL.roomTo_false {L : LedL} {p : List PlaceL} {k : Nat} (h : L.fitAt p k = false) : ∀ n, k < n → L.roomTo p n = false
  | 0, hn => absurd hn (Nat.not_lt_zero _)
  | n + 1, hn => by
    rw [LedL.roomTo]
    by_cases e : k = n
    · subst e; rw [h]; simp
    · rw [LedL.roomTo_false h n (by omega)]; rfl
theorem LedL.fitAt_is {L : LedL} {p : List PlaceL} {k : Nat} (hk : k < p.length) : L.fitAt p k = (decide (L.cpu p[k].node + cpuS (onP p[k].node (p.take k)) + p[k].cpu ≤ (L.cap p[k].node).1) && decide (L.mem p[k].node + memS (onP p[k].node (p.take k)) + p[k].mem ≤ (L.cap p[k].node).2)) := by
  unfold LedL.fitAt
  rw [List.getElem?_eq_getElem hk]
  have e := onP_snoc (nm := p[k].node) hk
  rw [if_pos rfl] at e
  simp only [e, cpuS_append, memS_append]
  have e1 : cpuS [p[k]] = p[k].cpu := by simp [cpuS]
  have e2 : memS [p[k]] = p[k].mem := by simp [memS]
  rw [e1, e2, Nat.add_assoc, Nat.add_assoc]
theorem LedL.errTake_twice {L : LedL} {g : Int} {p : List PlaceL} (h : L.get g ≠ []) : L.errTake g p = 4 := by unfold LedL.errTake; rw [if_pos h]
theorem LedL.errTake_long {L : LedL} {g : Int} (h : L.get g = []) : L.errTake g [] = 3 := by unfold LedL.errTake; rw [if_neg (by simp [h]), if_pos rfl]
theorem LedL.errTake_none {L : LedL} {g : Int} {p : List PlaceL} (h : L.get g = []) {k : Nat} (hk : k < p.length) (hn : hasN L.nodes p[k].node = false) : L.errTake g p = 5 := by
  unfold LedL.errTake
  have hp : p ≠ [] := by rintro rfl; simp at hk
  rw [if_neg (by simp [h]), if_neg hp, if_pos]
  rw [Bool.eq_false_iff]
  intro hall
  have := List.all_eq_true.1 hall p[k] (List.getElem_mem hk)
  rw [hn] at this
  cases this
theorem LedL.errTake_room {L : LedL} {g : Int} {p : List PlaceL} (h : L.get g = []) (hp : p ≠ []) (hn : ∀ k (hk : k < p.length), hasN L.nodes p[k].node = true) : L.errTake g p = if L.roomTo p p.length = true then 0 else 6 := by
  unfold LedL.errTake
  have hall : p.all (fun x => hasN L.nodes x.node) = true := by
    rw [List.all_eq_true]
    intro x hx
    obtain ⟨k, hk, e⟩ := List.getElem_of_mem hx
    rw [← e]
    exact hn k hk
  rw [if_neg (by simp [h]), if_neg hp, if_neg (by rw [hall]; simp)]
theorem LedL.take_not {L : LedL} {g : Int} {p : List PlaceL} (h : L.errTake g p ≠ 0) : L.take g p = L := by unfold LedL.take; rw [if_neg h]
theorem LedL.take_yes {L : LedL} {g : Int} {p : List PlaceL} (h : L.errTake g p = 0) : L.take g p = { L with taken := setK L.taken g p } := by unfold LedL.take; rw [if_pos h]
/-- The sums of the first k places, by nodes, as the walk's own map has them. -/
def sumV (L : LedL) (p : List PlaceL) (k : Nat) (nm : List UInt8) : Value := .agg #[.int .i64 (L.cpu nm + cpuS (onP nm (p.take k)) : Nat), .int .i64 (L.mem nm + memS (onP nm (p.take k)) : Nat)]
structure SumsAt (L : LedL) (p : List PlaceL) (k : Nat) (B : Nat) (w : World) : Prop where
  mp : ∃ es, MapIs encS w B es ∧ ∀ nm, getK es (str nm) = if onP nm (p.take k) = [] then none else some (sumV L p k nm)
/-- The same once the next place's node has its sum. -/
structure SumsIn (L : LedL) (p : List PlaceL) (k : Nat) (x : List UInt8) (B : Nat) (w : World) : Prop where
  mp : ∃ es, MapIs encS w B es ∧ ∀ nm, getK es (str nm) = if nm = x then some (sumV L p k nm) else if onP nm (p.take k) = [] then none else some (sumV L p k nm)
theorem SumsAt.below {L : LedL} {p : List PlaceL} {k B : Nat} {w w' : World} (h : SumsAt L p k B w) (hb : Below w.heap.size w w') : SumsAt L p k B w' := by
  obtain ⟨es, h1, h2⟩ := h.mp
  exact ⟨es, h1.below encS hb, h2⟩
theorem SumsIn.below {L : LedL} {p : List PlaceL} {k B : Nat} {x : List UInt8} {w w' : World} (h : SumsIn L p k x B w) (hb : Below w.heap.size w w') : SumsIn L p k x B w' := by
  obtain ⟨es, h1, h2⟩ := h.mp
  exact ⟨es, h1.below encS hb, h2⟩
theorem zero_vec (w : World) : (zeroValue 58).run Tryz.prog w = .ok (.agg #[.int .i64 0, .int .i64 0]) w := by kernel_rfl
theorem SumsAt.look {L : LedL} {p : List PlaceL} {k B : Nat} {w : World} (h : SumsAt L p k B w) (nm : List UInt8) : (∀ w', w'.heap[B]? = w.heap[B]? → (Instr.lookup 175 (.map (some B)) (.string (str nm)) true).run Tryz.prog w' = .ok (.tuple #[if onP nm (p.take k) = [] then .agg #[.int .i64 0, .int .i64 0] else sumV L p k nm, .bool (!decide (onP nm (p.take k) = []))]) w') := by
  obtain ⟨es, h1, h2⟩ := h.mp
  intro w' hw
  have := (h1.same encS hw).look encS (P := Tryz.prog) Tryz.underlying175 Tryz.underlying9 (zero_vec w') (str nm) true
  rw [hasK_get, h2 nm] at this
  change (Instr.lookup 175 (.map (some B)) (.string (str nm)) true).run Tryz.prog w' = _ at this
  rw [this]
  by_cases e : onP nm (p.take k) = []
  · simp [e]
  · simp [e]
theorem SumsIn.look {L : LedL} {p : List PlaceL} {k B : Nat} {x : List UInt8} {w : World} (h : SumsIn L p k x B w) : ∀ w', w'.heap[B]? = w.heap[B]? → (Instr.lookup 175 (.map (some B)) (.string (str x)) false).run Tryz.prog w' = .ok (sumV L p k x) w' := by
  obtain ⟨es, h1, h2⟩ := h.mp
  intro w' hw
  have := (h1.same encS hw).look encS (P := Tryz.prog) Tryz.underlying175 Tryz.underlying9 (zero_vec w') (str x) false
  rw [hasK_get, h2 x, if_pos rfl] at this
  exact this
theorem SumsAt.in_ {L : LedL} {p : List PlaceL} {k B : Nat} {x : List UInt8} {w : World} (h : SumsAt L p k B w) (hx : onP x (p.take k) ≠ []) : SumsIn L p k x B w := by
  obtain ⟨es, h1, h2⟩ := h.mp
  refine ⟨es, h1, fun nm => ?_⟩
  rw [h2 nm]
  by_cases e : nm = x
  · subst e; rw [if_neg hx, if_pos rfl]
  · rw [if_neg e]
theorem SumsAt.put {L : LedL} {p : List PlaceL} {k B : Nat} {x : List UInt8} {w : World} (h : SumsAt L p k B w) (hx : onP x (p.take k) = []) : ∃ w', (Instr.mapUpdate 175 (.map (some B)) (.string (str x)) (.agg #[.int .i64 (L.cpu x), .int .i64 (L.mem x)])).run Tryz.prog w = .ok () w' ∧ SumsIn L p k x B w' ∧ Turn B w w' := by
  obtain ⟨es, h1, h2⟩ := h.mp
  obtain ⟨w', hr, hM, hT⟩ := h1.put encS (P := Tryz.prog) Tryz.underlying175 Tryz.underlying9 (str x) (.agg #[.int .i64 (L.cpu x), .int .i64 (L.mem x)])
  refine ⟨w', hr, ⟨_, hM, fun nm => ?_⟩, hT⟩
  rw [getK_set, h2 nm]
  by_cases e : nm = x
  · subst e
    rw [if_pos rfl, if_pos rfl]
    unfold sumV
    rw [hx]
    simp [cpuS, memS]
  · rw [if_neg (fun e' => e (str_inj e')), if_neg e]
theorem SumsIn.put {L : LedL} {p : List PlaceL} {k B : Nat} {w : World} (hk : k < p.length) (h : SumsIn L p k p[k].node B w) : ∃ w', (Instr.mapUpdate 175 (.map (some B)) (.string (str p[k].node)) (.agg #[.int .i64 (L.cpu p[k].node + cpuS (onP p[k].node (p.take k)) + p[k].cpu : Nat), .int .i64 (L.mem p[k].node + memS (onP p[k].node (p.take k)) + p[k].mem : Nat)])).run Tryz.prog w = .ok () w' ∧ SumsAt L p (k + 1) B w' ∧ Turn B w w' := by
  obtain ⟨es, h1, h2⟩ := h.mp
  obtain ⟨w', hr, hM, hT⟩ := h1.put encS (P := Tryz.prog) Tryz.underlying175 Tryz.underlying9 (str p[k].node) (.agg #[.int .i64 (L.cpu p[k].node + cpuS (onP p[k].node (p.take k)) + p[k].cpu : Nat), .int .i64 (L.mem p[k].node + memS (onP p[k].node (p.take k)) + p[k].mem : Nat)])
  refine ⟨w', hr, ⟨_, hM, fun nm => ?_⟩, hT⟩
  rw [getK_set, h2 nm]
  have e := onP_snoc (nm := nm) hk
  by_cases hx : nm = p[k].node
  · subst hx
    rw [if_pos rfl] at e
    rw [if_pos rfl, e, if_neg (by simp)]
    unfold sumV
    rw [e, cpuS_append, memS_append]
    simp [cpuS, memS, Int.add_assoc]
  · rw [if_neg (fun e => hx e.symm)] at e
    rw [if_neg (fun e' => hx (str_inj e')), if_neg hx, e]
    unfold sumV
    rw [e]
end Go.Proofs.YtofofjfmhaggmaaGreatDoor
