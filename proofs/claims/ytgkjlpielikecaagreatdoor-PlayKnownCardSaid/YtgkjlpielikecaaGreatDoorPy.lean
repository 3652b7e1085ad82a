/- Words, names, sets of marks, nodes and pods, as plain lists of bytes: how they are read, how they are written. -/
import Derived.Test.YtgkjlpielikecaaGreatDoorPz
import Derived.Laws.RangeAny
set_option linter.unusedVariables false
set_option linter.unusedSimpArgs false
namespace Go.Proofs.YtgkjlpielikecaaGreatDoor
open Go

/-! ### Names -/
def str (l : List UInt8) : ByteArray := ⟨l.toArray⟩
theorem str_size (l : List UInt8) : (str l).size = l.length := by simp [str, ByteArray.size]
theorem str_get (l : List UInt8) (i : Nat) (h : i < (str l).size) : (str l)[i] = l[i]'(by simpa [str_size] using h) := by simp [str, ByteArray.getElem_eq_getElem_data]
theorem str_append (a b : List UInt8) : str a ++ str b = str (a ++ b) := by
  apply ByteArray.ext
  simp [str, ByteArray.data_append]
theorem decode_skip (s : ByteArray) (pos : Nat) (h : pos < s.size) (ha : 128 ≤ (s[pos]'h).toNat) : ∀ j, j < (Utf8.decode s pos).2 → 128 ≤ (s.get! (pos + j)).toNat := by
  have h0 : (s.get! (pos + 0)) = s[pos]'h := get_at s pos h
  have hn : ¬ (s[pos]'h).toNat < 128 := by omega
  intro j hj
  match j with
  | 0 => rw [h0]; exact ha
  | j + 1 =>
    revert hj
    simp only [Utf8.decode, h0, hn, if_false]
    repeat' split
    all_goals intro hj
    all_goals simp_all [Utf8.runeError]
    all_goals first
      | omega
      | (have : j = 0 := (by omega); subst this; simp_all <;> omega)
      | (have : j = 0 ∨ j = 1 := (by omega); rcases this with rfl | rfl <;> (simp_all <;> omega))
      | (have : j = 0 ∨ j = 1 ∨ j = 2 := (by omega); rcases this with rfl | rfl | rfl <;> (simp_all <;> omega))

/-- May a rune stand at that place of a name? -/
def runeOk (pos c : Nat) : Bool := (decide (97 ≤ c) && decide (c ≤ 122)) || (decide (945 ≤ c) && decide (c ≤ 969)) || (decide (48 ≤ c) && decide (c ≤ 57) && decide (pos ≠ 0))
def nameGo (s : ByteArray) : Nat → Nat → Bool
  | k + 1, pos => if pos < s.size then runeOk pos (Utf8.decode s pos).1 && nameGo s k (pos + (Utf8.decode s pos).2) else true
  | 0, _ => true
def runesGo (s : ByteArray) : Nat → Nat → Nat
  | k + 1, pos => if pos < s.size then 1 + runesGo s k (pos + (Utf8.decode s pos).2) else 0
  | 0, _ => 0
def nameS (s : ByteArray) : Bool := nameGo s s.size 0 && (!decide (s.size = 0) && decide (runesGo s s.size 0 ≤ 8))
def nameB (l : List UInt8) : Bool := nameS (str l)
theorem width_pos (s : ByteArray) (pos : Nat) (h : pos < s.size) : 1 ≤ (Utf8.decode s pos).2 := by
  by_cases ha : (s[pos]'h).toNat < 128
  · rw [decode_ascii s pos h ha]; exact Nat.le_refl _
  · exact (decode_high s pos h (by omega)).2
theorem width_le (s : ByteArray) (pos : Nat) (h : pos < s.size) : pos + (Utf8.decode s pos).2 ≤ s.size := by
  simp only [Utf8.decode]
  repeat' split
  all_goals simp_all
  all_goals omega
theorem nameGo_end (s : ByteArray) (k pos : Nat) (h : ¬ pos < s.size) : nameGo s k pos = true := by cases k <;> simp [nameGo, h]
theorem runesGo_end (s : ByteArray) (k pos : Nat) (h : ¬ pos < s.size) : runesGo s k pos = 0 := by cases k <;> simp [runesGo, h]
theorem nameGo_step (s : ByteArray) (k pos : Nat) (h : pos < s.size) : nameGo s (k + 1) pos = (runeOk pos (Utf8.decode s pos).1 && nameGo s k (pos + (Utf8.decode s pos).2)) := by simp [nameGo, h]
theorem runesGo_step (s : ByteArray) (k pos : Nat) (h : pos < s.size) : runesGo s (k + 1) pos = 1 + runesGo s k (pos + (Utf8.decode s pos).2) := by simp [runesGo, h]
theorem runesGo_le (s : ByteArray) : ∀ k pos, runesGo s k pos ≤ k
  | 0, _ => Nat.le_refl _
  | k + 1, pos => by
    have := runesGo_le s k (pos + (Utf8.decode s pos).2)
    simp only [runesGo]
    split <;> omega
/-- Each byte of a name below 128 is a letter, or a digit. -/
theorem nameGo_bytes (s : ByteArray) : ∀ k pos, s.size ≤ pos + k → nameGo s k pos = true → ∀ i, pos ≤ i → (h : i < s.size) → (s[i]'h).toNat < 128 → (97 ≤ (s[i]'h).toNat ∧ (s[i]'h).toNat ≤ 122) ∨ (48 ≤ (s[i]'h).toNat ∧ (s[i]'h).toNat ≤ 57)
  | 0, pos, hk, _, i, hi, h, _ => by omega
  | k + 1, pos, hk, hn, i, hi, h, hb => by
    have hp : pos < s.size := by omega
    rw [nameGo_step s k pos hp, Bool.and_eq_true] at hn
    have hw := width_pos s pos hp
    by_cases hlt : i < pos + (Utf8.decode s pos).2
    · by_cases ha : (s[pos]'hp).toNat < 128
      · rw [decode_ascii s pos hp ha] at hlt hn
        obtain rfl : i = pos := by simp at hlt; omega
        have := hn.1
        simp [runeOk] at this
        omega
      · have h1 := decode_skip s pos hp (by omega) (i - pos) (by omega)
        rw [show pos + (i - pos) = i by omega] at h1
        have e : s.get! i = s[i]'h := get_at s i h
        rw [e] at h1
        omega
    · exact nameGo_bytes s k _ (by omega) hn.2 i (by omega) h hb
theorem nameB_bytes {l : List UInt8} (h : nameB l = true) : ∀ c ∈ l, c.toNat < 128 → (97 ≤ c.toNat ∧ c.toNat ≤ 122) ∨ (48 ≤ c.toNat ∧ c.toNat ≤ 57) := by
  intro c hc hb
  obtain ⟨i, hi, rfl⟩ := List.getElem_of_mem hc
  simp only [nameB, nameS, Bool.and_eq_true] at h
  have hi' : i < (str l).size := by rw [str_size]; exact hi
  have := nameGo_bytes (str l) (str l).size 0 (by omega) h.1 i (Nat.zero_le _) hi' (by rw [str_get]; exact hb)
  rw [str_get] at this
  exact this
theorem nameB_word {l : List UInt8} (h : nameB l = true) : isWord l := by
  refine ⟨fun e => ?_, List.all_eq_true.2 fun c hc => ?_⟩
  · subst e; simp [nameB, nameS, str_size] at h
  · rw [Bool.not_eq_true', parting]
    cases hp : [32, 58, 44, 43, 126, 33, 62, 64].contains c with
    | false => rfl
    | true =>
      exfalso
      have hm : c ∈ [32, 58, 44, 43, 126, 33, 62, (64 : UInt8)] := by simpa using hp
      have h1 := nameB_bytes h c hc
      simp only [List.mem_cons, List.not_mem_nil, or_false] at hm
      rcases hm with rfl | rfl | rfl | rfl | rfl | rfl | rfl | rfl <;> simp at h1
/-- Names, rising, four at most. -/
def rises : List (List UInt8) → Bool
  | a :: b :: t => Op.bytesLess a b && rises (b :: t)
  | _ => true
def setB (ls : List (List UInt8)) : Bool := ls.all nameB && rises ls && decide (ls.length ≤ 4)
theorem setB_words {ls : List (List UInt8)} (h : setB ls = true) : ∀ n ∈ ls, isWord n := by
  simp only [setB, Bool.and_eq_true, List.all_eq_true] at h
  exact fun n hn => nameB_word (h.1.1 n hn)

/-! ### Nodes and pods -/
structure NodeL where
  name : List UInt8
  cpu : Nat
  mem : Nat
  marks : List (List UInt8)
  taints : List (List UInt8)
  closed : Bool
structure PodL where
  name : List UInt8
  shard : Nat
  cpu : Nat
  mem : Nat
  picks : List (List UInt8)
  bears : List (List UInt8)
  alone : Bool
def flagT (b : Bool) : List UInt8 := if b then [33] else []
def tailT (a b : List (List UInt8)) (f : Bool) : List UInt8 := rowT 43 a ++ (rowT 126 b ++ flagT f)
def nodeT (n : NodeL) : List UInt8 := n.name ++ 58 :: (vecT n.cpu n.mem ++ tailT n.marks n.taints n.closed)
def podT (p : PodL) : List UInt8 := p.name ++ 64 :: (Lib.decDigits p.shard ++ 58 :: (vecT p.cpu p.mem ++ tailT p.picks p.bears p.alone))
def pTail (l : List UInt8) : Option (List (List UInt8) × List (List UInt8) × Bool) :=
  (pRow 43 l.length l).bind fun a => (pRow 126 a.2.length a.2).bind fun b => if (pSign 33 b.2).2 = [] then some (a.1, b.1, (pSign 33 b.2).1) else none
def pNode (most : Nat) (l : List UInt8) : Option NodeL :=
  (pName l).bind fun n => (pMust 58 n.2).bind fun l1 => (pVec most l1).bind fun v => (pTail v.2).map fun t => ⟨n.1, v.1.1, v.1.2, t.1, t.2.1, t.2.2⟩
def pPod (l : List UInt8) : Option PodL :=
  (pName l).bind fun n => (pMust 64 n.2).bind fun l1 => (pNum 999999 l1).bind fun k => (pMust 58 k.2).bind fun l2 => (pVec 1099511627776 l2).bind fun v => (pTail v.2).map fun t => ⟨n.1, k.1, v.1.1, v.1.2, t.1, t.2.1, t.2.2⟩
def words (a b : List (List UInt8)) : Prop := (∀ n ∈ a, isWord n) ∧ ∀ n ∈ b, isWord n
theorem flag_no (b : Bool) : ∀ r, flagT b ≠ 126 :: r := by cases b <;> simp [flagT]
theorem noPart_flag (b : Bool) : noPart (flagT b) := by cases b <;> (intro c r e; simp [flagT] at e); rw [← e.1]; decide
theorem noPart_tail (a b : List (List UInt8)) (f : Bool) : noPart (tailT a b f) := noPart_row (by decide) (noPart_row (by decide) (noPart_flag f))
theorem noDig_of_part {t : List UInt8} (h : noPart t) : noDig t := fun c r e => by
  have hp := h c r e
  cases hd : dig c with
  | false => rfl
  | true =>
    have hm : c ∈ [32, 58, 44, 43, 126, 33, 62, (64 : UInt8)] := by simpa [parting] using hp
    have h1 := dig_iff.1 hd
    simp only [List.mem_cons, List.not_mem_nil, or_false] at hm
    rcases hm with rfl | rfl | rfl | rfl | rfl | rfl | rfl | rfl <;> simp at h1
theorem rowT_len (c : UInt8) (ns : List (List UInt8)) : ns.length ≤ (rowT c ns).length := by
  induction ns with
  | nil => simp
  | cons n ns ih => rw [rowT_cons]; simp; omega
theorem pTail_T {a b : List (List UInt8)} {f : Bool} (h : words a b) : pTail (tailT a b f) = some (a, b, f) := by
  unfold pTail tailT
  have hq : ∀ r, rowT 126 b ++ flagT f ≠ 43 :: r := by
    cases b with
    | nil => cases f <;> simp [flagT, rowT_nil]
    | cons n b => simp [rowT_cons]
  have h1 := rowT_len 43 a
  have h2 := rowT_len 126 b
  rw [pRow_app (by decide) (noPart_row (by decide) (noPart_flag f)) hq a _ h.1 (by simp; omega)]
  simp only [Option.bind_some]
  rw [pRow_app (by decide) (noPart_flag f) (flag_no f) b _ h.2 (by simp; omega)]
  simp only [Option.bind_some]
  cases f <;> simp [flagT, pSign]
theorem pTail_inv {l : List UInt8} {a b : List (List UInt8)} {f : Bool} (h : pTail l = some (a, b, f)) : l = tailT a b f ∧ words a b := by
  unfold pTail at h
  rw [Option.bind_eq_some_iff] at h
  obtain ⟨⟨x, l1⟩, h1, h⟩ := h
  rw [Option.bind_eq_some_iff] at h
  obtain ⟨⟨y, l2⟩, h2, h⟩ := h
  obtain ⟨e1, w1, _, _⟩ := pRow_inv _ _ _ _ (Nat.le_refl _) h1
  obtain ⟨e2, w2, _, _⟩ := pRow_inv _ _ _ _ (Nat.le_refl _) h2
  have e3 := pSign_inv 33 l2
  simp only at h e2
  split at h
  · rename_i h3
    simp only [Option.some.injEq, Prod.mk.injEq] at h
    obtain ⟨rfl, rfl, rfl⟩ := h
    rw [h3] at e3
    have e4 : l2 = flagT (pSign 33 l2).1 := by simpa [flagT] using e3
    refine ⟨?_, w1, w2⟩
    show l = rowT 43 x ++ (rowT 126 y ++ flagT (pSign 33 l2).1)
    rw [← e4, ← e2, ← e1]
  · cases h
def NodeL.fine (most : Nat) (n : NodeL) : Prop := isWord n.name ∧ n.cpu ≤ most ∧ n.mem ≤ most ∧ words n.marks n.taints
theorem pNode_T {most : Nat} {n : NodeL} (h : n.fine most) : pNode most (nodeT n) = some n := by
  obtain ⟨h1, h2, h3, h4⟩ := h
  unfold pNode nodeT
  rw [pName_word h1 (noPart_cons (by decide))]
  simp only [Option.bind_some, pMust_cons]
  rw [pVec_app h2 h3 (noDig_of_part (noPart_tail _ _ _))]
  simp only [Option.bind_some]
  rw [pTail_T h4]
  rfl
theorem pNode_inv {most : Nat} {l : List UInt8} {n : NodeL} (h : pNode most l = some n) : l = nodeT n ∧ n.fine most := by
  unfold pNode at h
  rw [Option.bind_eq_some_iff] at h
  obtain ⟨⟨x, l1⟩, h1, h⟩ := h
  rw [Option.bind_eq_some_iff] at h
  obtain ⟨l2, h2, h⟩ := h
  rw [Option.bind_eq_some_iff] at h
  obtain ⟨⟨⟨v1, v2⟩, l3⟩, h3, h⟩ := h
  rw [Option.map_eq_some_iff] at h
  obtain ⟨⟨a, b, f⟩, h4, rfl⟩ := h
  obtain ⟨e1, w1, _⟩ := pName_inv h1
  have e2 := pMust_inv h2
  obtain ⟨e3, q1, q2, _⟩ := pVec_inv h3
  obtain ⟨e4, w4⟩ := pTail_inv h4
  simp only at e2 e4
  exact ⟨by rw [e1, e2, e3, e4]; simp [nodeT], w1, q1, q2, w4⟩
def PodL.fine (p : PodL) : Prop := isWord p.name ∧ p.shard ≤ 999999 ∧ p.cpu ≤ 1099511627776 ∧ p.mem ≤ 1099511627776 ∧ words p.picks p.bears
theorem pPod_T {p : PodL} (h : p.fine) : pPod (podT p) = some p := by
  obtain ⟨h1, h0, h2, h3, h4⟩ := h
  unfold pPod podT
  rw [pName_word h1 (noPart_cons (by decide))]
  simp only [Option.bind_some, pMust_cons]
  rw [pNum_dec h0 (noDig_cons (by decide))]
  simp only [Option.bind_some, pMust_cons]
  rw [pVec_app h2 h3 (noDig_of_part (noPart_tail _ _ _))]
  simp only [Option.bind_some]
  rw [pTail_T h4]
  rfl
theorem pPod_inv {l : List UInt8} {p : PodL} (h : pPod l = some p) : l = podT p ∧ p.fine := by
  unfold pPod at h
  rw [Option.bind_eq_some_iff] at h
  obtain ⟨⟨x, l1⟩, h1, h⟩ := h
  rw [Option.bind_eq_some_iff] at h
  obtain ⟨l2, h2, h⟩ := h
  rw [Option.bind_eq_some_iff] at h
  obtain ⟨⟨k, l3⟩, h3, h⟩ := h
  rw [Option.bind_eq_some_iff] at h
  obtain ⟨l4, h4, h⟩ := h
  rw [Option.bind_eq_some_iff] at h
  obtain ⟨⟨⟨v1, v2⟩, l5⟩, h5, h⟩ := h
  rw [Option.map_eq_some_iff] at h
  obtain ⟨⟨a, b, f⟩, h6, rfl⟩ := h
  obtain ⟨e1, w1, _⟩ := pName_inv h1
  have e2 := pMust_inv h2
  obtain ⟨e3, q0, _⟩ := pNum_inv h3
  have e4 := pMust_inv h4
  obtain ⟨e5, q1, q2, _⟩ := pVec_inv h5
  obtain ⟨e6, w6⟩ := pTail_inv h6
  simp only at e2 e4 e6
  exact ⟨by rw [e1, e2, e3, e4, e5, e6]; simp [podT], w1, q0, q1, q2, w6⟩
end Go.Proofs.YtgkjlpielikecaaGreatDoor
