/- Ledgers, plain: who has which room; rows that go together; what is sorted. -/
import Derived.Test.YtofofjfmhaggmaaGreatDoorRa
import Derived.Test.YtofofjfmhaggmaaGreatDoorPt
import Derived.Test.YtofofjfmhaggmaaGreatDoorMr
import Derived.Sort.Walk0
set_option linter.unusedVariables false
set_option linter.unusedSimpArgs false
namespace Go.Proofs.YtofofjfmhaggmaaGreatDoor

/-! ### Rows that go together -/
inductive All2 {α β : Type} (R : α → β → Prop) : List α → List β → Prop
  | nil : All2 R [] []
  | cons {a : α} {b : β} {l : List α} {m : List β} : R a b → All2 R l m → All2 R (a :: l) (b :: m)
section
variable {α β γ δ : Type} {R S : α → β → Prop} {l l1 l2 : List α} {m m1 m2 : List β}
theorem All2.imp (h : All2 R l m) (k : ∀ a b, R a b → S a b) : All2 S l m := by
  induction h with
  | nil => exact .nil
  | cons h _ ih => exact .cons (k _ _ h) ih
theorem All2.len (h : All2 R l m) : l.length = m.length := by
  induction h with
  | nil => rfl
  | cons _ _ ih => simp [ih]
theorem All2.append (h : All2 R l m) (k : All2 R l1 m1) : All2 R (l ++ l1) (m ++ m1) := by
  induction h with
  | nil => exact k
  | cons h _ ih => exact .cons h ih
theorem All2.one {a : α} {b : β} (h : R a b) : All2 R [a] [b] := .cons h .nil
theorem All2.split {a : α} : ∀ {l1 : List α} {m : List β}, All2 R (l1 ++ a :: l2) m → ∃ m1 b m2, m = m1 ++ b :: m2 ∧ All2 R l1 m1 ∧ R a b ∧ All2 R l2 m2
  | [], _, .cons h k => ⟨[], _, _, rfl, .nil, h, k⟩
  | x :: l1, _, .cons h k => by
    obtain ⟨m1, b, m2, rfl, h1, h2, h3⟩ := All2.split k
    exact ⟨_ :: m1, b, m2, rfl, .cons h h1, h2, h3⟩
theorem All2.both {f : α → γ} {g : β → δ} {S : γ → δ → Prop} (h : All2 R l m) (k : ∀ a b, R a b → S (f a) (g b)) : All2 S (l.map f) (m.map g) := by
  induction h with
  | nil => exact .nil
  | cons h _ ih => exact .cons (k _ _ h) ih
theorem All2.filt {p : α → Bool} {q : β → Bool} (h : All2 R l m) (k : ∀ a b, R a b → p a = q b) : All2 R (l.filter p) (m.filter q) := by
  induction h with
  | nil => exact .nil
  | @cons a b l m h _ ih =>
    rw [List.filter_cons, List.filter_cons, k _ _ h]
    split
    · exact .cons h ih
    · exact ih
theorem All2.any {p : α → Bool} {q : β → Bool} (h : All2 R l m) (k : ∀ a b, R a b → p a = q b) : l.any p = m.any q := by
  induction h with
  | nil => rfl
  | @cons a b l m h _ ih => rw [List.any_cons, List.any_cons, k _ _ h, ih]
theorem All2.maps {f : α → γ} {g : β → γ} (h : All2 R l m) (k : ∀ a b, R a b → f a = g b) : l.map f = m.map g := by
  induction h with
  | nil => rfl
  | cons h _ ih => rw [List.map_cons, List.map_cons, k _ _ h, ih]
theorem All2.find {p : α → Bool} {q : β → Bool} (h : All2 R l m) (k : ∀ a b, R a b → p a = q b) :
    (l.find? p = none ∧ m.find? q = none) ∨ ∃ a b, l.find? p = some a ∧ m.find? q = some b ∧ R a b ∧ a ∈ l ∧ b ∈ m := by
  induction h with
  | nil => exact .inl ⟨rfl, rfl⟩
  | @cons a b l m h _ ih =>
    rw [List.find?_cons, List.find?_cons, k _ _ h]
    cases q b with
    | true => exact .inr ⟨a, b, rfl, rfl, h, List.mem_cons_self, List.mem_cons_self⟩
    | false =>
      rcases ih with ih | ⟨a', b', h1, h2, h3, h4, h5⟩
      · exact .inl ih
      · exact .inr ⟨a', b', h1, h2, h3, List.mem_cons_of_mem _ h4, List.mem_cons_of_mem _ h5⟩
theorem All2.at (h : All2 R l m) : ∀ i (hi : i < l.length) (hj : i < m.length), R l[i] m[i] := by
  induction h with
  | nil => intro i hi; exact absurd hi (Nat.not_lt_zero _)
  | cons h _ ih =>
    intro i hi hj
    cases i with
    | zero => exact h
    | succ i => exact ih i (by simpa using hi) (by simpa using hj)
end

/-! ### Sorting -/
/-- Rows sorted by putting each where it belongs. -/
def insS {α : Type} (le : α → α → Bool) (a : α) : List α → List α
  | [] => [a]
  | b :: t => if le a b then a :: b :: t else b :: insS le a t
def isort {α : Type} (le : α → α → Bool) (l : List α) : List α := l.foldr (insS le) []
section
variable {α : Type} {le : α → α → Bool}
theorem insS_perm (a : α) : ∀ l, (insS le a l).Perm (a :: l)
  | [] => .refl _
  | b :: t => by
    rw [insS]
    split
    · exact .refl _
    · exact ((insS_perm a t).cons b).trans (List.Perm.swap a b t)
theorem isort_perm : ∀ l : List α, (isort le l).Perm l
  | [] => .refl _
  | a :: l => (insS_perm a _).trans ((isort_perm l).cons a)
theorem insS_sorted (trans : ∀ a b c : α, le a b → le b c → le a c) (total : ∀ a b : α, (le a b || le b a) = true) (a : α) : ∀ l, l.Pairwise (fun x y => le x y = true) → (insS le a l).Pairwise (fun x y => le x y = true)
  | [], _ => by simp [insS]
  | b :: t, h => by
    rw [insS]
    rw [List.pairwise_cons] at h
    split
    · rename_i hab
      rw [List.pairwise_cons, List.pairwise_cons]
      refine ⟨fun x hx => ?_, h⟩
      rcases List.mem_cons.1 hx with rfl | hx
      · exact hab
      · exact trans _ _ _ hab (h.1 x hx)
    · rename_i hab
      have hba : le b a = true := by
        have := total a b
        simp only [Bool.or_eq_true] at this
        exact this.resolve_left hab
      rw [List.pairwise_cons]
      refine ⟨fun x hx => ?_, insS_sorted trans total a t h.2⟩
      rcases List.mem_cons.1 ((insS_perm a t).subset hx) with rfl | hx
      · exact hba
      · exact h.1 x hx
theorem isort_sorted (trans : ∀ a b c : α, le a b → le b c → le a c) (total : ∀ a b : α, (le a b || le b a) = true) : ∀ l : List α, (isort le l).Pairwise (fun x y => le x y = true)
  | [] => .nil
  | a :: l => insS_sorted trans total a _ (isort_sorted trans total l)
theorem isort_merge (trans : ∀ a b c : α, le a b → le b c → le a c) (total : ∀ a b : α, (le a b || le b a) = true) (anti : ∀ a b, le a b → le b a → a = b) {l m : List α} (h : l.Perm m) : l.mergeSort le = isort le m :=
  List.Perm.eq_of_pairwise (fun a b _ _ h k => anti a b h k) (List.pairwise_mergeSort trans total l) (isort_sorted trans total m) ((List.mergeSort_perm l le).trans (h.trans (isort_perm m).symm))
end
def leW (a b : List UInt8) : Bool := decide (a ≤ b)
def leZ (a b : Int) : Bool := decide (a ≤ b)
theorem leW_trans (a b c : List UInt8) (h : leW a b) (k : leW b c) : leW a c := by simp only [leW, decide_eq_true_eq] at *; exact List.le_trans h k
theorem leW_total (a b : List UInt8) : (leW a b || leW b a) = true := by simp only [leW, Bool.or_eq_true, decide_eq_true_eq]; exact List.le_total a b
theorem leW_anti (a b : List UInt8) (h : leW a b) (k : leW b a) : a = b := by simp only [leW, decide_eq_true_eq] at *; exact List.le_antisymm h k
theorem leZ_trans (a b c : Int) (h : leZ a b) (k : leZ b c) : leZ a c := by simp only [leZ, decide_eq_true_eq] at *; omega
theorem leZ_total (a b : Int) : (leZ a b || leZ b a) = true := by simp only [leZ, Bool.or_eq_true, decide_eq_true_eq]; omega
theorem leZ_anti (a b : Int) (h : leZ a b) (k : leZ b a) : a = b := by simp only [leZ, decide_eq_true_eq] at *; omega

/-! ### Ledgers -/
structure LedL where
  nodes : List NodeL
  taken : List (Int × List PlaceL)
def onP (nm : List UInt8) (l : List PlaceL) : List PlaceL := l.filter fun p => decide (p.node = nm)
def cpuS (l : List PlaceL) : Nat := (l.map PlaceL.cpu).sum
def memS (l : List PlaceL) : Nat := (l.map PlaceL.mem).sum
def LedL.all (L : LedL) : List PlaceL := L.taken.flatMap Prod.snd
def LedL.cpu (L : LedL) (nm : List UInt8) : Nat := cpuS (onP nm L.all)
def LedL.mem (L : LedL) (nm : List UInt8) : Nat := memS (onP nm L.all)
def LedL.pods (L : LedL) (nm : List UInt8) : Nat := (onP nm L.all).length
def hasN (l : List NodeL) (nm : List UInt8) : Bool := l.any fun n => decide (n.name = nm)
def getN (l : List NodeL) (nm : List UInt8) : Option NodeL := l.find? fun n => decide (n.name = nm)
def putN (l : List NodeL) (n : NodeL) : List NodeL := if hasN l n.name then l.map (fun m => if m.name = n.name then n else m) else l ++ [n]
def delN (l : List NodeL) (nm : List UInt8) : List NodeL := l.filter fun n => decide (n.name ≠ nm)
def LedL.get (L : LedL) (g : Int) : List PlaceL := (getK L.taken g).getD []
def LedL.cap (L : LedL) (nm : List UInt8) : Nat × Nat := match getN L.nodes nm with | some n => (n.cpu, n.mem) | none => (0, 0)
def LedL.sorted (L : LedL) : List NodeL := isort (fun a b => leW a.name b.name) L.nodes
def errNd (n : NodeL) : Int := if nameB n.name = false then 1 else if (decide (n.cpu ≤ 1099511627776) && decide (n.mem ≤ 1099511627776)) = false then 2 else if (setB n.marks && setB n.taints) = false then 1 else 0
def LedL.errPut (L : LedL) (n : NodeL) : Int :=
  if errNd n ≠ 0 then errNd n else if hasN L.nodes n.name = true then (if decide (L.cpu n.name ≤ n.cpu) && decide (L.mem n.name ≤ n.mem) then 0 else 6) else if 8 ≤ L.nodes.length then 3 else 0
def LedL.put (L : LedL) (n : NodeL) : LedL := if L.errPut n = 0 then { L with nodes := putN L.nodes n } else L
def LedL.errGone (L : LedL) (nm : List UInt8) : Int := if hasN L.nodes nm = false then 5 else if 0 < L.pods nm then 7 else 0
def LedL.gone (L : LedL) (nm : List UInt8) : LedL := if L.errGone nm = 0 then { L with nodes := delN L.nodes nm } else L
/-- Place i of places that come fits beside what is used and those ahead of it. -/
def LedL.fitAt (L : LedL) (p : List PlaceL) (i : Nat) : Bool :=
  match p[i]? with
  | none => true
  | some x => decide (L.cpu x.node + cpuS (onP x.node (p.take (i + 1))) ≤ (L.cap x.node).1) && decide (L.mem x.node + memS (onP x.node (p.take (i + 1))) ≤ (L.cap x.node).2)
def LedL.roomTo (L : LedL) (p : List PlaceL) : Nat → Bool
  | 0 => true
  | k + 1 => L.roomTo p k && L.fitAt p k
def LedL.errTake (L : LedL) (g : Int) (p : List PlaceL) : Int :=
  if L.get g ≠ [] then 4 else if p = [] then 3 else if p.all (fun x => hasN L.nodes x.node) = false then 5 else if L.roomTo p p.length then 0 else 6
def LedL.take (L : LedL) (g : Int) (p : List PlaceL) : LedL := if L.errTake g p = 0 then { L with taken := setK L.taken g p } else L
def LedL.errGive (L : LedL) (g : Int) : Int := if L.get g = [] then 5 else 0
def LedL.give (L : LedL) (g : Int) : LedL := if L.errGive g = 0 then { L with taken := delK L.taken g } else L

/-- A ledger that may be. -/
structure LedL.ok (L : LedL) : Prop where
  names : (L.nodes.map NodeL.name).Nodup
  good : ∀ n ∈ L.nodes, n.good
  most : L.nodes.length ≤ 8
  gangs : (L.taken.map Prod.fst).Nodup
  some : ∀ t ∈ L.taken, placesB t.2
  room : ∀ n ∈ L.nodes, L.cpu n.name ≤ n.cpu ∧ L.mem n.name ≤ n.mem
  homes : ∀ p ∈ L.all, hasN L.nodes p.node = true
def LedL.none : LedL := ⟨[], []⟩
theorem LedL.none_ok : LedL.none.ok := ⟨.nil, by simp [LedL.none], by simp [LedL.none], .nil, by simp [LedL.none], by simp [LedL.none], by simp [LedL.none, LedL.all]⟩
theorem onP_append (nm : List UInt8) (a b : List PlaceL) : onP nm (a ++ b) = onP nm a ++ onP nm b := by simp [onP]
theorem cpuS_append (a b : List PlaceL) : cpuS (a ++ b) = cpuS a + cpuS b := by simp [cpuS]
theorem memS_append (a b : List PlaceL) : memS (a ++ b) = memS a + memS b := by simp [memS]
theorem hasN_iff {l : List NodeL} {nm : List UInt8} : hasN l nm = true ↔ ∃ n ∈ l, n.name = nm := by simp [hasN]
theorem hasN_get {l : List NodeL} {nm : List UInt8} : hasN l nm = (getN l nm).isSome := by unfold hasN getN; rw [List.isSome_find?]
theorem errNd_good (n : NodeL) : errNd n = 0 ↔ n.good := by
  rw [← NodeL.goodB_iff]
  unfold errNd NodeL.goodB
  cases nameB n.name <;> cases (decide (n.cpu ≤ 1099511627776) && decide (n.mem ≤ 1099511627776)) <;> cases (setB n.marks && setB n.taints) <;> decide
theorem putN_names (l : List NodeL) (n : NodeL) : (putN l n).map NodeL.name = if hasN l n.name then l.map NodeL.name else l.map NodeL.name ++ [n.name] := by
  unfold putN
  split
  · rw [List.map_map]
    refine List.map_congr_left fun m _ => ?_
    show (if m.name = n.name then n else m).name = m.name
    split
    · rename_i h; exact h.symm
    · rfl
  · simp
theorem putN_mem {l : List NodeL} {n m : NodeL} (h : m ∈ putN l n) : m = n ∨ (m ∈ l ∧ m.name ≠ n.name) := by
  unfold putN at h
  split at h
  · obtain ⟨k, hk, rfl⟩ := List.mem_map.1 h
    split
    · exact .inl rfl
    · rename_i h1; exact .inr ⟨hk, h1⟩
  · rename_i h1
    rcases List.mem_append.1 h with h | h
    · refine .inr ⟨h, fun e => h1 (hasN_iff.2 ⟨m, h, e⟩)⟩
    · exact .inl (List.mem_singleton.1 h)
theorem hasN_put (l : List NodeL) (n : NodeL) {nm : List UInt8} (h : hasN l nm = true) : hasN (putN l n) nm = true := by
  have e : ∀ (l : List NodeL) nm, hasN l nm = true ↔ nm ∈ l.map NodeL.name := fun l nm => by rw [hasN_iff, List.mem_map]
  rw [e] at h ⊢
  rw [putN_names]
  split
  · exact h
  · exact List.mem_append_left _ h
theorem LedL.put_ok {L : LedL} (h : L.ok) (n : NodeL) : (L.put n).ok := by
  unfold LedL.put
  split
  case isFalse => exact h
  rename_i he
  unfold LedL.errPut at he
  split at he
  · exact absurd he (by assumption)
  rename_i hg
  have hg : n.good := (errNd_good n).1 (by simpa using hg)
  have hall : ({ L with nodes := putN L.nodes n } : LedL).all = L.all := rfl
  refine ⟨?_, ?_, ?_, h.gangs, h.some, ?_, fun p hp => hasN_put _ _ (h.homes p hp)⟩
  · show ((putN L.nodes n).map NodeL.name).Nodup
    rw [putN_names]
    split
    · exact h.names
    · rename_i hn
      rw [List.nodup_append]
      refine ⟨h.names, by simp, ?_⟩
      rintro a ha b hb rfl
      rw [List.mem_singleton] at hb
      subst hb
      obtain ⟨m, hm, e⟩ := List.mem_map.1 ha
      exact hn (hasN_iff.2 ⟨m, hm, e⟩)
  · intro m hm
    rcases putN_mem hm with rfl | ⟨hm, _⟩
    · exact hg
    · exact h.good m hm
  · have e : (putN L.nodes n).length = ((putN L.nodes n).map NodeL.name).length := by simp
    show (putN L.nodes n).length ≤ 8
    rw [e, putN_names]
    split
    · simpa using h.most
    · rename_i hn
      rw [if_neg hn] at he
      split at he
      · cases he
      · simp; omega
  · intro m hm
    show L.cpu m.name ≤ m.cpu ∧ L.mem m.name ≤ m.mem
    rcases putN_mem hm with rfl | ⟨hm, _⟩
    · by_cases hn : hasN L.nodes m.name = true
      · rw [if_pos hn] at he
        split at he
        · rename_i hc
          simpa using hc
        · cases he
      · have : onP m.name L.all = [] := by
          unfold onP
          rw [List.filter_eq_nil_iff]
          intro p hp e
          exact hn (by have := h.homes p hp; rwa [of_decide_eq_true e] at this)
        simp [LedL.cpu, LedL.mem, this, cpuS, memS]
    · exact h.room m hm
theorem delN_mem {l : List NodeL} {nm : List UInt8} {m : NodeL} : m ∈ delN l nm ↔ m ∈ l ∧ m.name ≠ nm := by simp [delN]
theorem LedL.gone_ok {L : LedL} (h : L.ok) (nm : List UInt8) : (L.gone nm).ok := by
  unfold LedL.gone
  split
  case isFalse => exact h
  rename_i he
  unfold LedL.errGone at he
  split at he
  · cases he
  split at he
  · cases he
  rename_i hp
  refine ⟨?_, fun m hm => h.good m (delN_mem.1 hm).1, Nat.le_trans (List.length_filter_le _ _) h.most, h.gangs, h.some, fun m hm => h.room m (delN_mem.1 hm).1, ?_⟩
  · exact List.Sublist.nodup ((List.filter_sublist).map _) h.names
  · intro p hpm
    obtain ⟨m, hm, e⟩ := hasN_iff.1 (h.homes p hpm)
    refine hasN_iff.2 ⟨m, delN_mem.2 ⟨hm, fun e' => ?_⟩, e⟩
    have : p ∈ onP nm L.all := List.mem_filter.2 ⟨hpm, by rw [← e, e']; simp⟩
    have := List.length_pos_of_mem this
    exact hp this
theorem getN_unique {l : List NodeL} (hn : (l.map NodeL.name).Nodup) {n : NodeL} (h : n ∈ l) : getN l n.name = some n := by
  unfold getN
  induction l with
  | nil => cases h
  | cons q l ih =>
    simp only [List.map_cons, List.nodup_cons] at hn
    rcases List.mem_cons.1 h with rfl | h
    · simp
    · have : q.name ≠ n.name := fun e => hn.1 (e ▸ List.mem_map_of_mem h)
      rw [List.find?_cons_of_neg (by simpa using this)]
      exact ih hn.2 h
theorem LedL.roomTo_fit {L : LedL} (h : L.ok) {p : List PlaceL} {n : NodeL} (hn : n ∈ L.nodes) : ∀ k, k ≤ p.length → L.roomTo p k = true →
    L.cpu n.name + cpuS (onP n.name (p.take k)) ≤ n.cpu ∧ L.mem n.name + memS (onP n.name (p.take k)) ≤ n.mem
  | 0, _, _ => by
    have := h.room n hn
    simpa [onP, cpuS, memS] using this
  | k + 1, hk, hr => by
    have hlt : k < p.length := by omega
    rw [LedL.roomTo, Bool.and_eq_true] at hr
    obtain ⟨h1, h2⟩ := LedL.roomTo_fit h hn k (by omega) hr.1
    by_cases e : p[k].node = n.name
    · have hf := hr.2
      unfold LedL.fitAt at hf
      rw [List.getElem?_eq_getElem hlt] at hf
      have hc : L.cap p[k].node = (n.cpu, n.mem) := by
        unfold LedL.cap
        rw [e, getN_unique h.names hn]
      simp only [hc, Bool.and_eq_true, decide_eq_true_eq] at hf
      rw [e] at hf
      exact hf
    · have : onP n.name (p.take (k + 1)) = onP n.name (p.take k) := by
        rw [List.take_succ_eq_append_getElem hlt, onP_append]
        simp [onP, e]
      rw [this]
      exact ⟨h1, h2⟩
theorem LedL.get_nil {L : LedL} (h : L.ok) {g : Int} (e : L.get g = []) : hasK L.taken g = false := by
  rw [hasK_get]
  unfold LedL.get at e
  cases hg : getK L.taken g with
  | none => rfl
  | some p =>
    rw [hg] at e
    simp only [Option.getD_some] at e
    subst e
    unfold getK at hg
    rw [Option.map_eq_some_iff] at hg
    obtain ⟨t, ht, e2⟩ := hg
    have := (h.some t (List.mem_of_find?_eq_some ht)).1
    rw [e2] at this
    simp at this
theorem LedL.take_is {L : LedL} (h : L.ok) {g : Int} {p : List PlaceL} (e : L.errTake g p = 0) : L.take g p = { L with taken := L.taken ++ [(g, p)] } := by
  unfold LedL.take
  rw [if_pos e, setK]
  unfold LedL.errTake at e
  split at e
  · cases e
  rename_i hg
  rw [if_neg (by rw [LedL.get_nil h (by simpa using hg)]; simp)]
theorem hasK_mem {κ α : Type} [DecidableEq κ] {l : List (κ × α)} {k : κ} : hasK l k = true ↔ k ∈ l.map Prod.fst := by simp [hasK]
theorem LedL.take_ok {L : LedL} (h : L.ok) (g : Int) {p : List PlaceL} (hp : placesB p) : (L.take g p).ok := by
  by_cases e : L.errTake g p = 0
  case neg => unfold LedL.take; rw [if_neg e]; exact h
  rw [LedL.take_is h e]
  have hg : L.get g = [] := by
    unfold LedL.errTake at e
    split at e
    · cases e
    rename_i hg; simpa using hg
  have hh : p.all (fun x => hasN L.nodes x.node) = true := by
    unfold LedL.errTake at e
    rw [if_neg (by simp [hg])] at e
    split at e
    · cases e
    split at e
    · cases e
    rename_i h2; simpa using h2
  have hr : L.roomTo p p.length = true := by
    unfold LedL.errTake at e
    rw [if_neg (by simp [hg])] at e
    split at e
    · cases e
    split at e
    · cases e
    split at e
    · assumption
    · cases e
  have hall : ({ L with taken := L.taken ++ [(g, p)] } : LedL).all = L.all ++ p := by simp [LedL.all]
  refine ⟨h.names, h.good, h.most, ?_, ?_, fun n hn => ?_, fun x hx => ?_⟩
  · show ((L.taken ++ [(g, p)]).map Prod.fst).Nodup
    rw [List.map_append, List.nodup_append]
    refine ⟨h.gangs, by simp, ?_⟩
    rintro a ha b hb rfl
    simp only [List.map_cons, List.map_nil, List.mem_singleton] at hb
    subst hb
    have := hasK_mem.2 ha
    rw [LedL.get_nil h hg] at this
    cases this
  · intro t ht
    rcases List.mem_append.1 ht with ht | ht
    · exact h.some t ht
    · rw [List.mem_singleton.1 ht]; exact hp
  · have := LedL.roomTo_fit h hn p.length (Nat.le_refl _) hr
    rw [List.take_length] at this
    unfold LedL.cpu LedL.mem at this ⊢
    rw [hall, onP_append, cpuS_append, memS_append]
    exact this
  · rw [hall] at hx
    rcases List.mem_append.1 hx with hx | hx
    · exact h.homes x hx
    · exact List.all_eq_true.1 hh x hx
theorem cpuS_sub {a b : List PlaceL} (h : a.Sublist b) : cpuS a ≤ cpuS b := by
  induction h with
  | slnil => exact Nat.le_refl _
  | cons x _ ih => simp only [cpuS, List.map_cons, List.sum_cons] at *; omega
  | cons_cons x _ ih => simp only [cpuS, List.map_cons, List.sum_cons] at *; omega
theorem memS_sub {a b : List PlaceL} (h : a.Sublist b) : memS a ≤ memS b := by
  induction h with
  | slnil => exact Nat.le_refl _
  | cons x _ ih => simp only [memS, List.map_cons, List.sum_cons] at *; omega
  | cons_cons x _ ih => simp only [memS, List.map_cons, List.sum_cons] at *; omega
theorem all_sub {a b : List (Int × List PlaceL)} (h : a.Sublist b) : (a.flatMap Prod.snd).Sublist (b.flatMap Prod.snd) := by
  induction h with
  | slnil => exact .slnil
  | cons x _ ih => rw [List.flatMap_cons]; exact ih.trans (List.sublist_append_right _ _)
  | cons_cons x _ ih => rw [List.flatMap_cons, List.flatMap_cons]; exact (List.Sublist.refl _).append ih
theorem LedL.give_ok {L : LedL} (h : L.ok) (g : Int) : (L.give g).ok := by
  unfold LedL.give
  split
  case isFalse => exact h
  have hs : (delK L.taken g).Sublist L.taken := List.filter_sublist
  have ha := all_sub hs
  refine ⟨h.names, h.good, h.most, (hs.map _).nodup h.gangs, fun t ht => h.some t (hs.subset ht), fun n hn => ?_, fun p hp => h.homes p (ha.subset hp)⟩
  have := h.room n hn
  have h1 := cpuS_sub (ha.filter fun p => decide (p.node = n.name))
  have h2 := memS_sub (ha.filter fun p => decide (p.node = n.name))
  exact ⟨Nat.le_trans h1 this.1, Nat.le_trans h2 this.2⟩
theorem LedL.cpu_le {L : LedL} (h : L.ok) (nm : List UInt8) : L.cpu nm ≤ 1099511627776 ∧ L.mem nm ≤ 1099511627776 := by
  by_cases hn : hasN L.nodes nm = true
  · obtain ⟨n, h1, rfl⟩ := hasN_iff.1 hn
    have a := h.room n h1
    have b := (h.good n h1)
    exact ⟨Nat.le_trans a.1 b.2.1, Nat.le_trans a.2 b.2.2.1⟩
  · have : onP nm L.all = [] := by
      unfold onP
      rw [List.filter_eq_nil_iff]
      intro p hp e
      exact hn (by have := h.homes p hp; rwa [of_decide_eq_true e] at this)
    simp [LedL.cpu, LedL.mem, this, cpuS, memS]
end Go.Proofs.YtofofjfmhaggmaaGreatDoor
/-! Scores, plain. -/
set_option linter.unusedVariables false
set_option linter.unusedSimpArgs false
namespace Go.Proofs.YtofofjfmhaggmaaGreatDoor
open Go.RowKit

/-- Is number k better than number b? -/
def better (xs : List ByteArray) (ss : List Int) (b : Int) (k : Nat) : Bool :=
  decide (b < 0) || decide (ss.getD b.toNat 0 < ss.getD k 0) || (ss.getD k 0 == ss.getD b.toNat 0 && Op.bytesLess (xs.getD k ByteArray.empty).toList (xs.getD b.toNat ByteArray.empty).toList)
def bestTo (xs : List ByteArray) (ss : List Int) : Nat → Int
  | 0 => -1
  | k + 1 => if better xs ss (bestTo xs ss k) k = true then (k : Int) else bestTo xs ss k
theorem bestTo_bd (xs : List ByteArray) (ss : List Int) : ∀ k, -1 ≤ bestTo xs ss k ∧ bestTo xs ss k < (k : Int) ∧ (0 < k → 0 ≤ bestTo xs ss k)
  | 0 => by simp [bestTo]
  | k + 1 => by
    have h := bestTo_bd xs ss k
    unfold bestTo
    split
    · omega
    · rename_i hb
      by_cases hk : 0 < k
      · have := h.2.2 hk; omega
      · obtain rfl : k = 0 := by omega
        exact absurd (by simp [better, bestTo]) hb
def partF (m u n : Int) : Int := if m = 0 then 100 else wrap64 (Int.tdiv (wrap64 (100 * (wrap64 ((wrap64 (m - u)) - n)))) m)
def leftF (a b c d e f : Int) : Int := wrap64 (partF a c e + partF b d f)
theorem leftF_wrap (a b c d e f : Int) : wrap64 (leftF a b c d e f) = leftF a b c d e f := wrap_wrap _
def scoreF (mode l pods : Int) : Int := if mode = 0 then l else if mode = 1 then wrap64 (200 - l) else if mode = 2 then wrap64 (1000 - pods) else 0
end Go.Proofs.YtofofjfmhaggmaaGreatDoor
