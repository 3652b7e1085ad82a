/- Events, as plain lists of bytes: read, written, read again. -/
import Derived.Test.YtikamehjeaoilaaGreatDoorPx
set_option linter.unusedVariables false
set_option linter.unusedSimpArgs false
namespace Go.Proofs.YtikamehjeaoilaaGreatDoor
open Go

def numW (most : Nat) (s : List UInt8) : Option Nat := (pNum most s).bind fun r => if r.2 = [] then some r.1 else none
theorem numW_dec {most n : Nat} (h : n ≤ most) : numW most (Lib.decDigits n) = some n := by
  have := pNum_dec h (t := []) (fun c r e => by cases e)
  rw [List.append_nil] at this
  simp [numW, this]
theorem numW_inv {most n : Nat} {s : List UInt8} (h : numW most s = some n) : s = Lib.decDigits n ∧ n ≤ most := by
  unfold numW at h
  rw [Option.bind_eq_some_iff] at h
  obtain ⟨⟨m, t⟩, h1, h⟩ := h
  obtain ⟨e, l, _⟩ := pNum_inv h1
  split at h
  · rename_i ht
    simp only at ht
    subst ht
    simp only [Option.some.injEq] at h
    subst h
    exact ⟨by rw [e, List.append_nil], l⟩
  · cases h
def NodeL.good (n : NodeL) : Prop := nameB n.name = true ∧ n.cpu ≤ 1099511627776 ∧ n.mem ≤ 1099511627776 ∧ setB n.marks = true ∧ setB n.taints = true
def NodeL.goodB (n : NodeL) : Bool := nameB n.name && (decide (n.cpu ≤ 1099511627776) && decide (n.mem ≤ 1099511627776) && (setB n.marks && setB n.taints))
theorem NodeL.goodB_iff {n : NodeL} : n.goodB = true ↔ n.good := by simp [NodeL.goodB, NodeL.good, and_assoc]
def nodeW (s : List UInt8) : Option NodeL := (pNode 999999999999999 s).bind fun n => if n.goodB = true then some n else none
theorem nodeW_T {n : NodeL} (h : n.good) : nodeW (nodeT n) = some n := by
  unfold nodeW
  rw [pNode_T ⟨nameB_word h.1, by have := h.2.1; omega, by have := h.2.2.1; omega, setB_words h.2.2.2.1, setB_words h.2.2.2.2⟩]
  simp only [Option.bind_some, NodeL.goodB_iff.2 h, if_true]
theorem nodeW_inv {s : List UInt8} {n : NodeL} (h : nodeW s = some n) : s = nodeT n ∧ n.good := by
  unfold nodeW at h
  rw [Option.bind_eq_some_iff] at h
  obtain ⟨q, h1, h⟩ := h
  split at h
  · rename_i hc
    simp only [Option.some.injEq] at h
    subst h
    exact ⟨(pNode_inv h1).1, NodeL.goodB_iff.1 hc⟩
  · cases h

/-! ### Events -/
def verbs : List (List UInt8) := [[115, 117, 98, 109, 105, 116], [99, 97, 110, 99, 101, 108], [114, 101, 108, 101, 97, 115, 101], [112, 117, 116], [103, 111, 110, 101], [100, 101, 108, 105, 118, 101, 114], [108, 111, 115, 101], [99, 111, 112, 121], [116, 105, 99, 107], [99, 114, 97, 115, 104], [115, 116, 97, 114, 116]]
def kindOf (w : List UInt8) : Nat := match verbs.findIdx? (· = w) with | some i => i + 1 | none => 0
def verb (k : Nat) : List UInt8 := verbs.getD (k - 1) []
structure EvL where
  kind : Nat
  a : Nat
  b : Nat
  id : Nat
  pods : List PodL
  node : NodeL
def noNode : NodeL := ⟨[], 0, 0, [], [], false⟩
/-- What stands behind a kind's word. -/
def evArgs (k : Nat) (ws : List (List UInt8)) : Option EvL :=
  if k = 0 then none
  else if k = 1 then match ws with | w :: r => (numW 999999 w).bind fun n => (r.mapM podW).map fun ps => ⟨1, 0, 0, n, ps, noNode⟩ | [] => none
  else if k = 4 then match ws with | [w, x] => (numW 999999 w).bind fun n => (nodeW x).map fun d => ⟨4, n, 0, 0, [], d⟩ | _ => none
  else if k = 5 then match ws with | [w, x] => (numW 999999 w).bind fun n => if nameB x = true then some ⟨5, n, 0, 0, [], ⟨x, 0, 0, [], [], false⟩⟩ else none | _ => none
  else if k = 10 then match ws with | [w, x] => (numW 999999 w).bind fun n => (numW 999999 x).map fun m => ⟨10, n, m, 0, [], noNode⟩ | _ => none
  else match ws with | [w] => (numW 999999 w).map fun n => ⟨k, n, 0, 0, [], noNode⟩ | _ => none
def evOf (ws : List (List UInt8)) : Option EvL := match ws with | w :: r => evArgs (kindOf w) r | [] => none
def evL (s : List UInt8) : Option EvL := evOf (splitC 32 s)
def evWords (e : EvL) : List (List UInt8) :=
  if e.kind = 1 then Lib.decDigits e.id :: e.pods.map podT
  else if e.kind = 4 then [Lib.decDigits e.a, nodeT e.node]
  else if e.kind = 5 then [Lib.decDigits e.a, e.node.name]
  else if e.kind = 10 then [Lib.decDigits e.a, Lib.decDigits e.b]
  else [Lib.decDigits e.a]
def evT (e : EvL) : List UInt8 := verb e.kind ++ rowT 32 (evWords e)
def EvL.good (e : EvL) : Prop :=
  1 ≤ e.kind ∧ e.kind ≤ 11 ∧ e.a ≤ 999999 ∧ e.b ≤ 999999 ∧ e.id ≤ 999999 ∧ (∀ p ∈ e.pods, p.good) ∧
  (e.kind = 1 → e.a = 0) ∧ (e.kind ≠ 1 → e.id = 0 ∧ e.pods = []) ∧ (e.kind ≠ 10 → e.b = 0) ∧
  (e.kind = 4 → e.node.good) ∧ (e.kind = 5 → nameB e.node.name = true ∧ e.node = ⟨e.node.name, 0, 0, [], [], false⟩) ∧ (e.kind ≠ 4 → e.kind ≠ 5 → e.node = noNode)
theorem kindOf_verb {k : Nat} (h1 : 1 ≤ k) (h2 : k ≤ 11) : kindOf (verb k) = k := by
  obtain rfl | rfl | rfl | rfl | rfl | rfl | rfl | rfl | rfl | rfl | rfl : k = 1 ∨ k = 2 ∨ k = 3 ∨ k = 4 ∨ k = 5 ∨ k = 6 ∨ k = 7 ∨ k = 8 ∨ k = 9 ∨ k = 10 ∨ k = 11 := by omega
  all_goals decide +kernel
theorem kindOf_inv {w : List UInt8} (h : kindOf w ≠ 0) : 1 ≤ kindOf w ∧ kindOf w ≤ 11 ∧ verb (kindOf w) = w := by
  unfold kindOf at h ⊢
  cases hf : verbs.findIdx? (· = w) with
  | none => rw [hf] at h; simp at h
  | some i =>
    obtain ⟨hi, hp, _⟩ := List.findIdx?_eq_some_iff_getElem.1 hf
    simp only
    have : verbs.length = 11 := rfl
    refine ⟨by omega, by omega, ?_⟩
    unfold verb
    rw [Nat.add_sub_cancel, List.getD_eq_getElem?_getD, List.getElem?_eq_getElem hi]
    simpa using hp
theorem kindOf_nil : kindOf [] = 0 := by decide +kernel
theorem mapM_some {α β : Type} {f : α → Option β} : ∀ {l : List α} {r : List β}, l.mapM f = some r → l.length = r.length ∧ ∀ i (h : i < l.length) (h' : i < r.length), f l[i] = some r[i]
  | [], r, h => by simp at h; subst h; simp
  | x :: l, r, h => by
    rw [List.mapM_cons] at h
    simp only [Option.pure_def, Option.bind_eq_bind, Option.bind_eq_some_iff, Option.some.injEq] at h
    obtain ⟨y, h1, ys, h2, rfl⟩ := h
    obtain ⟨e, g⟩ := mapM_some h2
    refine ⟨by simp [e], fun i hi hi' => ?_⟩
    cases i with
    | zero => exact h1
    | succ i => exact g i (by simpa using hi) (by simpa using hi')
theorem mapM_pods {l : List (List UInt8)} {ps : List PodL} (h : l.mapM podW = some ps) : l = ps.map podT ∧ ∀ p ∈ ps, p.good := by
  obtain ⟨e, g⟩ := mapM_some h
  refine ⟨List.ext_getElem (by simp [e]) fun i h1 h2 => ?_, fun p hp => ?_⟩
  · have := (podW_inv (g i h1 (by omega))).1
    simpa using this
  · obtain ⟨i, hi, rfl⟩ := List.getElem_of_mem hp
    exact (podW_inv (g i (by omega) hi)).2
theorem mapM_podT : ∀ {ps : List PodL}, (∀ p ∈ ps, p.good) → (ps.map podT).mapM podW = some ps
  | [], _ => rfl
  | p :: ps, h => by
    rw [List.map_cons, List.mapM_cons, podW_T (h p (List.mem_cons_self ..)), mapM_podT fun q hq => h q (List.mem_cons_of_mem _ hq)]
    rfl
theorem evArgs_T {e : EvL} (h : e.good) : evArgs e.kind (evWords e) = some e := by
  obtain ⟨k, a, b, id, ps, d⟩ := e
  obtain ⟨h1, h2, h3, h4, h5, h6, h7, h8, h9, h10, h11, h12⟩ := h
  simp only at *
  unfold evArgs evWords
  rw [if_neg (by omega)]
  by_cases k1 : k = 1
  · subst k1
    simp only [if_true, numW_dec h5, mapM_podT h6, Option.bind_some, Option.map_some, Option.some.injEq]
    rw [h7 rfl, h9 (by decide), h12 (by decide) (by decide)]
  · obtain ⟨rfl, rfl⟩ := h8 k1
    rw [if_neg k1, if_neg k1]
    by_cases k4 : k = 4
    · subst k4
      simp only [if_true, numW_dec h3, nodeW_T (h10 rfl), Option.bind_some, Option.map_some, Option.some.injEq]
      rw [h9 (by decide)]
    · rw [if_neg k4, if_neg k4]
      by_cases k5 : k = 5
      · subst k5
        obtain ⟨g1, g2⟩ := h11 rfl
        simp only [if_true, numW_dec h3, g1, Option.bind_some, Option.some.injEq]
        rw [h9 (by decide), ← g2]
      · rw [if_neg k5, if_neg k5]
        obtain rfl := h12 k4 k5
        by_cases k10 : k = 10
        · subst k10
          simp only [if_true, numW_dec h3, numW_dec h4, Option.bind_some, Option.map_some]
        · rw [if_neg k10, if_neg k10]
          simp only [numW_dec h3, Option.map_some]
          rw [h9 k10]
theorem evArgs_inv {k : Nat} {ws : List (List UInt8)} {e : EvL} (hk : k ≤ 11) (h : evArgs k ws = some e) : e.kind = k ∧ ws = evWords e ∧ e.good := by
  unfold evArgs at h
  by_cases k0 : k = 0
  · rw [if_pos k0] at h; cases h
  rw [if_neg k0] at h
  by_cases k1 : k = 1
  · rw [if_pos k1] at h
    subst k1
    match ws, h with
    | w :: r, h =>
      simp only [Option.bind_eq_some_iff, Option.map_eq_some_iff] at h
      obtain ⟨n, g1, ps, g2, rfl⟩ := h
      obtain ⟨rfl, l1⟩ := numW_inv g1
      obtain ⟨rfl, l2⟩ := mapM_pods g2
      exact ⟨rfl, rfl, by simp, by simp, by simp, by simp, l1, l2, by simp, by simp, by simp, by simp, by simp, by simp⟩
    | [], h => cases h
  rw [if_neg k1] at h
  by_cases k4 : k = 4
  · rw [if_pos k4] at h
    subst k4
    match ws, h with
    | [w, x], h =>
      simp only [Option.bind_eq_some_iff, Option.map_eq_some_iff] at h
      obtain ⟨n, g1, d, g2, rfl⟩ := h
      obtain ⟨rfl, l1⟩ := numW_inv g1
      obtain ⟨rfl, l2⟩ := nodeW_inv g2
      exact ⟨rfl, rfl, by simp, by simp, l1, by simp, by simp, by simp, by simp, by simp, by simp, fun _ => l2, by simp, by simp⟩
    | [], h => cases h
    | [_], h => cases h
    | _ :: _ :: _ :: _, h => cases h
  rw [if_neg k4] at h
  by_cases k5 : k = 5
  · rw [if_pos k5] at h
    subst k5
    match ws, h with
    | [w, x], h =>
      simp only [Option.bind_eq_some_iff] at h
      obtain ⟨n, g1, h⟩ := h
      obtain ⟨rfl, l1⟩ := numW_inv g1
      split at h
      · rename_i hx
        simp only [Option.some.injEq] at h
        subst h
        exact ⟨rfl, rfl, by simp, by simp, l1, by simp, by simp, by simp, by simp, by simp, by simp, by simp, fun _ => ⟨hx, rfl⟩, by simp⟩
      · cases h
    | [], h => cases h
    | [_], h => cases h
    | _ :: _ :: _ :: _, h => cases h
  rw [if_neg k5] at h
  by_cases k10 : k = 10
  · rw [if_pos k10] at h
    subst k10
    match ws, h with
    | [w, x], h =>
      simp only [Option.bind_eq_some_iff, Option.map_eq_some_iff] at h
      obtain ⟨n, g1, m, g2, rfl⟩ := h
      obtain ⟨rfl, l1⟩ := numW_inv g1
      obtain ⟨rfl, l2⟩ := numW_inv g2
      exact ⟨rfl, rfl, by simp, by simp, l1, l2, by simp, by simp, by simp, by simp, by simp, by simp, by simp, by simp⟩
    | [], h => cases h
    | [_], h => cases h
    | _ :: _ :: _ :: _, h => cases h
  rw [if_neg k10] at h
  match ws, h with
  | [w], h =>
    simp only [Option.map_eq_some_iff] at h
    obtain ⟨n, g1, rfl⟩ := h
    obtain ⟨rfl, l1⟩ := numW_inv g1
    exact ⟨rfl, by simp [evWords, k1, k4, k5, k10], by simp; omega, hk, l1, by simp, by simp, by simp, by simp [k1], by simp, by simp, by simp [k4], by simp [k5], by simp⟩
  | [], h => cases h
  | _ :: _ :: _, h => cases h
theorem not32_num (n : Nat) : (32 : UInt8) ∉ Lib.decDigits n := dec_not n (by decide)
theorem not32_word {n : List UInt8} (h : isWord n) : (32 : UInt8) ∉ n := word_not h (by decide)
theorem not32_row {c : UInt8} (hc : c ≠ 32) {ns : List (List UInt8)} (h : ∀ n ∈ ns, isWord n) : (32 : UInt8) ∉ rowT c ns := fun hm =>
  row_all (p := fun x => x ≠ 32) hc (fun n hn x hx e => not32_word (h n hn) (e ▸ hx)) 32 hm rfl
theorem not32_tail {a b : List (List UInt8)} {f : Bool} (h : words a b) : (32 : UInt8) ∉ tailT a b f := by
  have h1 := not32_row (c := 43) (by decide) h.1
  have h2 := not32_row (c := 126) (by decide) h.2
  cases f <;> simp [tailT, flagT, h1, h2]
theorem not32_pod {p : PodL} (h : p.fine) : (32 : UInt8) ∉ podT p := by
  have h1 := not32_word h.1
  have h2 := not32_tail (f := p.alone) h.2.2.2.2
  simp [podT, vecT, h1, h2, not32_num]
theorem not32_node {most : Nat} {p : NodeL} (h : p.fine most) : (32 : UInt8) ∉ nodeT p := by
  have h1 := not32_word h.1
  have h2 := not32_tail (f := p.closed) h.2.2.2
  simp [nodeT, vecT, h1, h2, not32_num]
theorem NodeL.good.fine {n : NodeL} (h : n.good) : n.fine 999999999999999 := ⟨nameB_word h.1, by have := h.2.1; omega, by have := h.2.2.1; omega, setB_words h.2.2.2.1, setB_words h.2.2.2.2⟩
theorem not32_verb {k : Nat} (h1 : 1 ≤ k) (h2 : k ≤ 11) : (32 : UInt8) ∉ verb k := by
  obtain rfl | rfl | rfl | rfl | rfl | rfl | rfl | rfl | rfl | rfl | rfl : k = 1 ∨ k = 2 ∨ k = 3 ∨ k = 4 ∨ k = 5 ∨ k = 6 ∨ k = 7 ∨ k = 8 ∨ k = 9 ∨ k = 10 ∨ k = 11 := by omega
  all_goals decide +kernel
theorem not32_words {e : EvL} (h : e.good) : ∀ w ∈ evWords e, (32 : UInt8) ∉ w := by
  obtain ⟨h1, h2, h3, h4, h5, h6, h7, h8, h9, h10, h11, h12⟩ := h
  intro w hw
  unfold evWords at hw
  split at hw
  · simp only [List.mem_cons, List.mem_map] at hw
    rcases hw with rfl | ⟨p, hp, rfl⟩
    · exact not32_num _
    · exact not32_pod (h6 p hp).fine
  split at hw
  · rename_i k4
    simp only [List.mem_cons, List.not_mem_nil, or_false] at hw
    rcases hw with rfl | rfl
    · exact not32_num _
    · exact not32_node (h10 k4).fine
  split at hw
  · rename_i k5
    simp only [List.mem_cons, List.not_mem_nil, or_false] at hw
    rcases hw with rfl | rfl
    · exact not32_num _
    · exact not32_word (nameB_word (h11 k5).1)
  split at hw
  · simp only [List.mem_cons, List.not_mem_nil, or_false] at hw
    rcases hw with rfl | rfl <;> exact not32_num _
  · simp only [List.mem_cons, List.not_mem_nil, or_false] at hw
    subst hw; exact not32_num _
theorem evL_T {e : EvL} (h : e.good) : evL (evT e) = some e := by
  have h0 := h
  obtain ⟨h1, h2, _⟩ := h0
  unfold evL evT
  rw [splitC_row _ _ (not32_verb h1 h2) (not32_words h)]
  show evArgs (kindOf (verb e.kind)) (evWords e) = some e
  rw [kindOf_verb h1 h2, evArgs_T h]
theorem evL_inv {s : List UInt8} {e : EvL} (h : evL s = some e) : s = evT e ∧ e.good := by
  unfold evL at h
  have hr := rowT_splitC 32 s
  match hs : splitC 32 s with
  | [] => exact absurd hs (splitC_ne 32 s)
  | w :: r =>
    rw [hs] at h hr
    change evArgs (kindOf w) r = some e at h
    have hk : kindOf w ≠ 0 := fun h0 => by rw [h0] at h; simp [evArgs] at h
    obtain ⟨k1, k2, k3⟩ := kindOf_inv hk
    obtain ⟨e1, e2, e3⟩ := evArgs_inv k2 h
    rw [rowT_cons] at hr
    simp only [List.cons.injEq, true_and] at hr
    refine ⟨?_, e3⟩
    rw [← hr, evT, e1, k3, ← e2]
/-- No word of a line that is read is empty. -/
theorem evL_full {s : List UInt8} {e : EvL} (h : evL s = some e) : ∀ w ∈ splitC 32 s, w ≠ [] := by
  obtain ⟨rfl, g⟩ := evL_inv h
  have g0 := g
  obtain ⟨h1, h2, h3, h4, h5, h6, h7, h8, h9, h10, h11, h12⟩ := g0
  unfold evT
  rw [splitC_row _ _ (not32_verb h1 h2) (not32_words g)]
  intro w hw
  rcases List.mem_cons.1 hw with rfl | hw
  · intro e0
    have := kindOf_verb h1 h2
    rw [e0, kindOf_nil] at this
    omega
  · unfold evWords at hw
    split at hw
    · simp only [List.mem_cons, List.mem_map] at hw
      rcases hw with rfl | ⟨p, hp, rfl⟩
      · exact dec_ne _
      · simp [podT]
    split at hw
    · simp only [List.mem_cons, List.not_mem_nil, or_false] at hw
      rcases hw with rfl | rfl
      · exact dec_ne _
      · simp [nodeT]
    split at hw
    · rename_i k5
      simp only [List.mem_cons, List.not_mem_nil, or_false] at hw
      rcases hw with rfl | rfl
      · exact dec_ne _
      · exact (nameB_word (h11 k5).1).1
    split at hw
    · simp only [List.mem_cons, List.not_mem_nil, or_false] at hw
      rcases hw with rfl | rfl <;> exact dec_ne _
    · simp only [List.mem_cons, List.not_mem_nil, or_false] at hw
      subst hw; exact dec_ne _
end Go.Proofs.YtikamehjeaoilaaGreatDoor
