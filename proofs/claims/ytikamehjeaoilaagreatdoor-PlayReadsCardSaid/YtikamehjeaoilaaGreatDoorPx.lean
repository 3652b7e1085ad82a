/- The parts of a line, as plain lists of bytes: numbers, names, signs; how they are read, how they are written. -/
import Derived.Lib.ItoaNum
import Derived.Lib.Hide
import Derived.Laws.RangeAny
set_option linter.unusedVariables false
set_option linter.unusedSimpArgs false
namespace Go.Proofs.YtikamehjeaoilaaGreatDoor
open Go

/-! ### Numbers -/
def dig (c : UInt8) : Bool := decide (48 ≤ c.toNat) && decide (c.toNat ≤ 57)
theorem dig_iff {c : UInt8} : dig c = true ↔ 48 ≤ c.toNat ∧ c.toNat ≤ 57 := by simp [dig]
def valF (n : Nat) (l : List UInt8) : Nat := l.foldl (fun n c => n * 10 + (c.toNat - 48)) n
def val (l : List UInt8) : Nat := valF 0 l
theorem valF_snoc (n : Nat) (l : List UInt8) (c : UInt8) : valF n (l ++ [c]) = valF n l * 10 + (c.toNat - 48) := by simp [valF]
theorem valF_eq (l : List UInt8) : ∀ n, valF n l = n * 10 ^ l.length + val l := by
  induction l with
  | nil => intro n; simp [valF, val]
  | cons c l ih =>
    intro n
    have h1 := ih (n * 10 + (c.toNat - 48))
    have h2 := ih (0 * 10 + (c.toNat - 48))
    show valF (n * 10 + (c.toNat - 48)) l = _
    rw [h1]
    show _ = n * 10 ^ (l.length + 1) + valF (0 * 10 + (c.toNat - 48)) l
    rw [h2, Nat.pow_succ, Nat.add_mul, Nat.mul_assoc, Nat.mul_comm 10, Nat.zero_mul, Nat.zero_add]
    omega
theorem val_snoc (l : List UInt8) (c : UInt8) : val (l ++ [c]) = val l * 10 + (c.toNat - 48) := valF_snoc 0 l c
theorem val_cons (c : UInt8) (l : List UInt8) : val (c :: l) = (c.toNat - 48) * 10 ^ l.length + val l := by
  have := valF_eq l (0 * 10 + (c.toNat - 48))
  show valF (0 * 10 + (c.toNat - 48)) l = _
  rw [this]; simp
theorem val_take_le (l : List UInt8) (k : Nat) : val (l.take k) ≤ val l := by
  induction l generalizing k with
  | nil => simp
  | cons c l ih =>
    cases k with
    | zero => simp [val, valF]
    | succ k =>
      rw [List.take_succ_cons, val_cons, val_cons]
      have h1 := ih k
      have h2 : 10 ^ (l.take k).length ≤ 10 ^ l.length := Nat.pow_le_pow_right (by decide) (by simp; omega)
      have h3 := Nat.mul_le_mul_left (c.toNat - 48) h2
      omega
theorem val_lt (l : List UInt8) (h : l.all dig = true) : val l < 10 ^ l.length := by
  induction l with
  | nil => simp [val, valF]
  | cons c l ih =>
    simp only [List.all_cons, Bool.and_eq_true] at h
    have h1 := ih h.2
    have h2 := dig_iff.1 h.1
    rw [val_cons, List.length_cons, Nat.pow_succ]
    have h3 : (c.toNat - 48) * 10 ^ l.length ≤ 9 * 10 ^ l.length := Nat.mul_le_mul_right _ (by omega)
    omega
/-- A numeral: digits, no nought ahead. -/
def isNum (l : List UInt8) : Prop := l ≠ [] ∧ l.all dig = true ∧ (l.head? = some 48 → l.length = 1)
theorem decDigits_all (u : Nat) : (Lib.decDigits u).all dig = true := by
  induction u using Nat.strongRecOn with
  | _ u ih =>
    rw [Lib.decDigits]
    split
    · simp [dig]; omega
    · rw [List.all_append, ih _ (by omega)]
      simp [dig]; omega
theorem val_dec (u : Nat) : val (Lib.decDigits u) = u := by
  induction u using Nat.strongRecOn with
  | _ u ih =>
    rw [Lib.decDigits]
    split
    · simp [val, valF]; omega
    · rw [val_snoc, ih _ (by omega)]
      simp; omega
theorem dec_ne (u : Nat) : Lib.decDigits u ≠ [] := by rw [Lib.decDigits]; split <;> simp
theorem val_pos {c : UInt8} {l : List UInt8} (h : dig c = true) (hc : c ≠ 48) : 1 ≤ val (c :: l) := by
  rw [val_cons]
  have h1 := dig_iff.1 h
  have h2 : c.toNat ≠ 48 := fun e => hc (UInt8.toNat_inj.1 e)
  have h3 : 1 ≤ 10 ^ l.length := Nat.one_le_pow _ _ (by decide)
  have h4 : 1 * 1 ≤ (c.toNat - 48) * 10 ^ l.length := Nat.mul_le_mul (by omega) h3
  omega
theorem dec_num (u : Nat) : isNum (Lib.decDigits u) := by
  refine ⟨dec_ne u, decDigits_all u, ?_⟩
  induction u using Nat.strongRecOn with
  | _ u ih =>
    rw [Lib.decDigits]
    split
    · simp
    · intro h
      have hn := dec_ne (u / 10)
      have h1 : (Lib.decDigits (u / 10)).head? = some 48 := by
        match hd : Lib.decDigits (u / 10), hn with
        | x :: t, _ => rw [hd] at h; simpa using h
      have h2 := ih (u / 10) (by omega) h1
      have h3 := val_dec (u / 10)
      match hd : Lib.decDigits (u / 10), h2 with
      | [x], _ =>
        rw [hd] at h1 h3
        simp at h1
        subst h1
        simp [val, valF] at h3
        omega
theorem num_dec {l : List UInt8} (h : isNum l) : Lib.decDigits (val l) = l := by
  obtain ⟨h1, h2, h3⟩ := h
  generalize hn : l.length = n
  induction n generalizing l with
  | zero => exact absurd (List.length_eq_zero_iff.1 hn) h1
  | succ n ih =>
    obtain ⟨a, c, rfl⟩ : ∃ a c, l = a ++ [c] := ⟨l.dropLast, l.getLast h1, (List.dropLast_concat_getLast h1).symm⟩
    simp only [List.all_append, List.all_cons, List.all_nil, Bool.and_true, Bool.and_eq_true] at h2
    have hc := dig_iff.1 h2.2
    have hcc : UInt8.ofNat (48 + (c.toNat - 48)) = c := by rw [show 48 + (c.toNat - 48) = c.toNat by omega]; simp
    rw [val_snoc]
    match a, h1, h2, h3, hn with
    | [], _, _, _, _ =>
      rw [Lib.decDigits, dif_pos (by simp [val, valF]; omega)]
      simp [val, valF, hcc]
    | x :: t, _, h2, h3, hn =>
      have hx : x ≠ 48 := by
        rintro rfl
        have := h3 (by simp)
        simp at this
      have h4 := val_pos (l := t) (by simp at h2; exact h2.1.1) hx
      have h5 := ih (l := x :: t) (by simp) h2.1 (by intro e; simp at e; exact absurd e hx) (by simp at hn ⊢; omega)
      rw [Lib.decDigits, dif_neg (by omega)]
      rw [show (val (x :: t) * 10 + (c.toNat - 48)) / 10 = val (x :: t) by omega, h5, show (val (x :: t) * 10 + (c.toNat - 48)) % 10 = c.toNat - 48 by omega, hcc]

/-- What is left begins with no digit. -/
def noDig (t : List UInt8) : Prop := ∀ c r, t = c :: r → dig c = false
def pNum (most : Nat) (l : List UInt8) : Option (Nat × List UInt8) :=
  if l.takeWhile dig = [] ∨ ((l.takeWhile dig).head? = some 48 ∧ 1 < (l.takeWhile dig).length) ∨ most < val (l.takeWhile dig) then none
  else some (val (l.takeWhile dig), l.dropWhile dig)
theorem takeWhile_app {α : Type} {p : α → Bool} {a t : List α} (h : a.all p = true) (ht : ∀ c r, t = c :: r → p c = false) : (a ++ t).takeWhile p = a ∧ (a ++ t).dropWhile p = t := by
  induction a with
  | nil =>
    cases t with
    | nil => simp
    | cons c r => simp [List.takeWhile_cons, List.dropWhile_cons, ht c r rfl]
  | cons x a ih =>
    simp only [List.all_cons, Bool.and_eq_true] at h
    have := ih h.2
    simp [List.takeWhile_cons, List.dropWhile_cons, h.1, this.1, this.2]
theorem dropWhile_head {α : Type} {p : α → Bool} (l : List α) : ∀ c r, l.dropWhile p = c :: r → p c = false := by
  induction l with
  | nil => intro c r h; simp at h
  | cons x l ih =>
    intro c r h
    rw [List.dropWhile_cons] at h
    cases hx : p x with
    | true => rw [hx] at h; simp at h; exact ih c r h
    | false =>
      rw [hx] at h
      simp only [Bool.false_eq_true, if_false, List.cons.injEq] at h
      rw [← h.1]; exact hx
theorem takeWhile_all {α : Type} {p : α → Bool} (l : List α) : (l.takeWhile p).all p = true := by
  induction l with
  | nil => rfl
  | cons x l ih =>
    rw [List.takeWhile_cons]
    cases hx : p x with
    | true => simp [hx, ih]
    | false => simp
theorem pNum_dec {most n : Nat} {t : List UInt8} (h : n ≤ most) (ht : noDig t) : pNum most (Lib.decDigits n ++ t) = some (n, t) := by
  obtain ⟨h1, h2, h3⟩ := dec_num n
  obtain ⟨e1, e2⟩ := takeWhile_app h2 ht
  unfold pNum
  rw [e1, e2, val_dec, if_neg]
  rintro (h | ⟨h4, h5⟩ | h)
  · exact h1 h
  · have := h3 h4; omega
  · omega
theorem pNum_inv {most n : Nat} {l t : List UInt8} (h : pNum most l = some (n, t)) : l = Lib.decDigits n ++ t ∧ n ≤ most ∧ noDig t := by
  unfold pNum at h
  split at h
  · cases h
  · rename_i hn
    simp only [Option.some.injEq, Prod.mk.injEq] at h
    obtain ⟨rfl, rfl⟩ := h
    have hi : isNum (l.takeWhile dig) := ⟨fun e => hn (.inl e), takeWhile_all l, fun e => by
      have : ¬ 1 < (l.takeWhile dig).length := fun h => hn (.inr (.inl ⟨e, h⟩))
      have h0 : (l.takeWhile dig).length ≠ 0 := fun h => hn (.inl (List.length_eq_zero_iff.1 h))
      omega⟩
    refine ⟨by rw [num_dec hi]; exact List.takeWhile_append_dropWhile.symm, by omega, dropWhile_head l⟩

/-! ### Names, signs -/
def parting (c : UInt8) : Bool := [32, 58, 44, 43, 126, 33, 62, 64].contains c
def noPart (t : List UInt8) : Prop := ∀ c r, t = c :: r → parting c = true
def pName (l : List UInt8) : Option (List UInt8 × List UInt8) := if l.takeWhile (fun c => !parting c) = [] then none else some (l.takeWhile (fun c => !parting c), l.dropWhile (fun c => !parting c))
/-- A word that a name may be, as far as reading goes. -/
def isWord (l : List UInt8) : Prop := l ≠ [] ∧ l.all (fun c => !parting c) = true
theorem pName_word {n t : List UInt8} (h : isWord n) (ht : noPart t) : pName (n ++ t) = some (n, t) := by
  obtain ⟨e1, e2⟩ := takeWhile_app h.2 (t := t) (fun c r e => by simp [ht c r e])
  unfold pName
  rw [e1, e2, if_neg h.1]
theorem pName_inv {l n t : List UInt8} (h : pName l = some (n, t)) : l = n ++ t ∧ isWord n ∧ noPart t := by
  unfold pName at h
  split at h
  · cases h
  · rename_i hn
    simp only [Option.some.injEq, Prod.mk.injEq] at h
    obtain ⟨rfl, rfl⟩ := h
    exact ⟨List.takeWhile_append_dropWhile.symm, ⟨hn, takeWhile_all l⟩, fun c r e => by simpa using dropWhile_head l c r e⟩
def pSign (c : UInt8) : List UInt8 → Bool × List UInt8
  | x :: t => if x = c then (true, t) else (false, x :: t)
  | [] => (false, [])
def pMust (c : UInt8) (l : List UInt8) : Option (List UInt8) := if (pSign c l).1 = true then some (pSign c l).2 else none
theorem pMust_cons (c : UInt8) (t : List UInt8) : pMust c (c :: t) = some t := by simp [pMust, pSign]
theorem pMust_inv {c : UInt8} {l t : List UInt8} (h : pMust c l = some t) : l = c :: t := by
  unfold pMust at h
  cases l with
  | nil => simp [pSign] at h
  | cons x l =>
    by_cases hx : x = c
    · simp [pSign, hx] at h; rw [hx, h]
    · simp [pSign, hx] at h
theorem pSign_app {c : UInt8} {b : Bool} {t : List UInt8} (h : b = false → ∀ r, t ≠ c :: r) : pSign c ((if b then [c] else []) ++ t) = (b, t) := by
  cases b with
  | true => simp [pSign]
  | false =>
    cases t with
    | nil => rfl
    | cons x t =>
      have : x ≠ c := fun e => h rfl t (by rw [e])
      simp [pSign, this]
theorem pSign_inv (c : UInt8) (l : List UInt8) : l = (if (pSign c l).1 then [c] else []) ++ (pSign c l).2 := by
  cases l with
  | nil => rfl
  | cons x l =>
    by_cases hx : x = c
    · simp [pSign, hx]
    · simp [pSign, hx]
def pVec (most : Nat) (l : List UInt8) : Option ((Nat × Nat) × List UInt8) :=
  (pNum most l).bind fun a => (pMust 44 a.2).bind fun l1 => (pNum most l1).map fun b => ((a.1, b.1), b.2)
def vecT (a b : Nat) : List UInt8 := Lib.decDigits a ++ 44 :: Lib.decDigits b
theorem noDig_cons {c : UInt8} {t : List UInt8} (h : dig c = false) : noDig (c :: t) := fun d r e => by cases e; exact h
theorem noPart_cons {c : UInt8} {t : List UInt8} (h : parting c = true) : noPart (c :: t) := fun d r e => by cases e; exact h
theorem pVec_app {most a b : Nat} {t : List UInt8} (ha : a ≤ most) (hb : b ≤ most) (ht : noDig t) : pVec most (vecT a b ++ t) = some ((a, b), t) := by
  unfold pVec vecT
  rw [List.append_assoc, pNum_dec ha (by rw [List.cons_append]; exact noDig_cons (by decide))]
  simp only [Option.bind_some, List.cons_append, pMust_cons]
  rw [pNum_dec hb ht]; rfl
theorem pVec_inv {most a b : Nat} {l t : List UInt8} (h : pVec most l = some ((a, b), t)) : l = vecT a b ++ t ∧ a ≤ most ∧ b ≤ most ∧ noDig t := by
  unfold pVec at h
  rw [Option.bind_eq_some_iff] at h
  obtain ⟨⟨x, l1⟩, h1, h⟩ := h
  rw [Option.bind_eq_some_iff] at h
  obtain ⟨l2, h2, h⟩ := h
  rw [Option.map_eq_some_iff] at h
  obtain ⟨⟨y, l3⟩, h3, h⟩ := h
  simp only [Prod.mk.injEq] at h
  obtain ⟨⟨rfl, rfl⟩, rfl⟩ := h
  obtain ⟨e1, p1, _⟩ := pNum_inv h1
  have e2 := pMust_inv h2
  obtain ⟨e3, p3, q3⟩ := pNum_inv h3
  simp only at e2
  exact ⟨by rw [e1, e2, e3]; simp [vecT], p1, p3, q3⟩

/-- Names, a sign ahead of each. -/
def pRow (c : UInt8) : Nat → List UInt8 → Option (List (List UInt8) × List UInt8)
  | k + 1, l => if (pSign c l).1 = true then (pName (pSign c l).2).bind fun n => (pRow c k n.2).map fun r => (n.1 :: r.1, r.2) else some ([], l)
  | 0, l => some ([], l)
def rowT (c : UInt8) (ns : List (List UInt8)) : List UInt8 := ns.flatMap fun n => c :: n
theorem rowT_cons (c : UInt8) (n : List UInt8) (ns : List (List UInt8)) : rowT c (n :: ns) = c :: (n ++ rowT c ns) := by simp [rowT]
theorem rowT_nil (c : UInt8) : rowT c [] = [] := rfl
theorem noPart_row {c : UInt8} {ns : List (List UInt8)} {t : List UInt8} (hc : parting c = true) (ht : noPart t) : noPart (rowT c ns ++ t) := by
  cases ns with
  | nil => exact ht
  | cons n ns => rw [rowT_cons]; exact noPart_cons hc
theorem pRow_app {c : UInt8} (hc : parting c = true) {t : List UInt8} (ht : noPart t) (htc : ∀ r, t ≠ c :: r) : ∀ (ns : List (List UInt8)) (k : Nat), (∀ n ∈ ns, isWord n) → ns.length ≤ k → pRow c k (rowT c ns ++ t) = some (ns, t) := by
  intro ns
  induction ns with
  | nil =>
    intro k _ _
    rw [rowT_nil, List.nil_append]
    cases k with
    | zero => rfl
    | succ k =>
      have : pSign c t = (false, t) := pSign_app (b := false) (fun _ => htc)
      simp [pRow, this]
  | cons n ns ih =>
    intro k h hk
    obtain ⟨k, rfl⟩ : ∃ m, k = m + 1 := ⟨k - 1, by simp at hk; omega⟩
    rw [rowT_cons, List.cons_append, List.append_assoc]
    have e : pSign c (c :: (n ++ (rowT c ns ++ t))) = (true, n ++ (rowT c ns ++ t)) := by simp [pSign]
    rw [pRow, e]
    simp only [if_true]
    rw [pName_word (h n (List.mem_cons_self ..)) (noPart_row hc ht)]
    simp only [Option.bind_some]
    rw [ih k (fun m hm => h m (List.mem_cons_of_mem _ hm)) (by simp at hk; omega)]
    rfl
theorem pRow_inv {c : UInt8} : ∀ (k : Nat) (l : List UInt8) (ns : List (List UInt8)) (t : List UInt8), l.length ≤ k → pRow c k l = some (ns, t) → l = rowT c ns ++ t ∧ (∀ n ∈ ns, isWord n) ∧ (∀ r, t ≠ c :: r) ∧ (ns ≠ [] → noPart t) := by
  intro k
  induction k with
  | zero =>
    intro l ns t hl h
    obtain rfl := List.length_eq_zero_iff.1 (Nat.le_zero.1 hl)
    simp only [pRow, Option.some.injEq, Prod.mk.injEq] at h
    obtain ⟨rfl, rfl⟩ := h
    exact ⟨rfl, by simp, by simp, by simp⟩
  | succ k ih =>
    intro l ns t hl h
    rw [pRow] at h
    have e := pSign_inv c l
    split at h
    · rename_i hs
      rw [hs] at e
      simp only [if_true, List.cons_append, List.nil_append] at e
      rw [Option.bind_eq_some_iff] at h
      obtain ⟨⟨n, l1⟩, h1, h⟩ := h
      rw [Option.map_eq_some_iff] at h
      obtain ⟨⟨ms, l2⟩, h2, h⟩ := h
      simp only [Prod.mk.injEq] at h
      obtain ⟨rfl, rfl⟩ := h
      obtain ⟨e1, w1, p1⟩ := pName_inv h1
      have hlen : l1.length ≤ k := by
        have a1 := congrArg List.length e
        have a2 := congrArg List.length e1
        simp at a1 a2
        omega
      obtain ⟨e2, w2, p2, q2⟩ := ih l1 ms l2 hlen h2
      refine ⟨by rw [rowT_cons, e, e1, e2]; simp, ?_, p2, fun _ => ?_⟩
      · intro m hm
        rcases List.mem_cons.1 hm with rfl | hm
        · exact w1
        · exact w2 m hm
      · cases ms with
        | nil => simp only [rowT_nil, List.nil_append] at e2; rw [← e2]; exact p1
        | cons a b => exact q2 (by simp)
    · rename_i hs
      simp only [Option.some.injEq, Prod.mk.injEq] at h
      obtain ⟨rfl, rfl⟩ := h
      refine ⟨rfl, by simp, fun r hr => hs (by rw [hr]; simp [pSign]), by simp⟩
end Go.Proofs.YtikamehjeaoilaaGreatDoor
/-! Words, names, sets of marks, nodes and pods, as plain lists of bytes: how they are read, how they are written. -/
set_option linter.unusedVariables false
set_option linter.unusedSimpArgs false
namespace Go.Proofs.YtikamehjeaoilaaGreatDoor
open Go

/-! ### Names -/
def str (l : List UInt8) : ByteArray := ⟨l.toArray⟩
theorem str_size (l : List UInt8) : (str l).size = l.length := by simp [str, ByteArray.size]
theorem str_get (l : List UInt8) (i : Nat) (h : i < (str l).size) : (str l)[i] = l[i]'(by simpa [str_size] using h) := by simp [str, ByteArray.getElem_eq_getElem_data]
theorem str_append (a b : List UInt8) : str a ++ str b = str (a ++ b) := by
  apply ByteArray.ext
  simp [str, ByteArray.data_append]
theorem decode_skip (s : ByteArray) (pos : Nat) (h : pos < s.size) (ha : 128 ≤ (s[pos]'h).toNat) : ∀ j, j < (Utf8.decode s pos).2 → 128 ≤ (s.get! (pos + j)).toNat := by
  have h0 : (s.get! (pos + 0)) = s[pos]'h := get_at s pos h
  have hn : ¬ (s[pos]'h).toNat < 128 := by omega
  intro j hj
  match j with
  | 0 => rw [h0]; exact ha
  | j + 1 =>
    revert hj
    simp only [Utf8.decode, h0, hn, if_false]
    repeat' split
    all_goals intro hj
    all_goals simp_all [Utf8.runeError]
    all_goals first
      | omega
      | (have : j = 0 := (by omega); subst this; simp_all <;> omega)
      | (have : j = 0 ∨ j = 1 := (by omega); rcases this with rfl | rfl <;> (simp_all <;> omega))
      | (have : j = 0 ∨ j = 1 ∨ j = 2 := (by omega); rcases this with rfl | rfl | rfl <;> (simp_all <;> omega))

/-- May a rune stand at that place of a name? -/
def runeOk (pos c : Nat) : Bool := (decide (97 ≤ c) && decide (c ≤ 122)) || (decide (945 ≤ c) && decide (c ≤ 969)) || (decide (48 ≤ c) && decide (c ≤ 57) && decide (pos ≠ 0))
def nameGo (s : ByteArray) : Nat → Nat → Bool
  | k + 1, pos => if pos < s.size then runeOk pos (Utf8.decode s pos).1 && nameGo s k (pos + (Utf8.decode s pos).2) else true
  | 0, _ => true
def runesGo (s : ByteArray) : Nat → Nat → Nat
  | k + 1, pos => if pos < s.size then 1 + runesGo s k (pos + (Utf8.decode s pos).2) else 0
  | 0, _ => 0
def nameS (s : ByteArray) : Bool := nameGo s s.size 0 && (!decide (s.size = 0) && decide (runesGo s s.size 0 ≤ 8))
def nameB (l : List UInt8) : Bool := nameS (str l)
theorem width_pos (s : ByteArray) (pos : Nat) (h : pos < s.size) : 1 ≤ (Utf8.decode s pos).2 := by
  by_cases ha : (s[pos]'h).toNat < 128
  · rw [decode_ascii s pos h ha]; exact Nat.le_refl _
  · exact (decode_high s pos h (by omega)).2
theorem width_le (s : ByteArray) (pos : Nat) (h : pos < s.size) : pos + (Utf8.decode s pos).2 ≤ s.size := by
  simp only [Utf8.decode]
  repeat' split
  all_goals simp_all
  all_goals omega
theorem nameGo_end (s : ByteArray) (k pos : Nat) (h : ¬ pos < s.size) : nameGo s k pos = true := by cases k <;> simp [nameGo, h]
theorem runesGo_end (s : ByteArray) (k pos : Nat) (h : ¬ pos < s.size) : runesGo s k pos = 0 := by cases k <;> simp [runesGo, h]
theorem nameGo_step (s : ByteArray) (k pos : Nat) (h : pos < s.size) : nameGo s (k + 1) pos = (runeOk pos (Utf8.decode s pos).1 && nameGo s k (pos + (Utf8.decode s pos).2)) := by simp [nameGo, h]
theorem runesGo_step (s : ByteArray) (k pos : Nat) (h : pos < s.size) : runesGo s (k + 1) pos = 1 + runesGo s k (pos + (Utf8.decode s pos).2) := by simp [runesGo, h]
theorem runesGo_le (s : ByteArray) : ∀ k pos, runesGo s k pos ≤ k
  | 0, _ => Nat.le_refl _
  | k + 1, pos => by
    have := runesGo_le s k (pos + (Utf8.decode s pos).2)
    simp only [runesGo]
    split <;> omega
/-- Each byte of a name below 128 is a letter, or a digit. -/
theorem nameGo_bytes (s : ByteArray) : ∀ k pos, s.size ≤ pos + k → nameGo s k pos = true → ∀ i, pos ≤ i → (h : i < s.size) → (s[i]'h).toNat < 128 → (97 ≤ (s[i]'h).toNat ∧ (s[i]'h).toNat ≤ 122) ∨ (48 ≤ (s[i]'h).toNat ∧ (s[i]'h).toNat ≤ 57)
  | 0, pos, hk, _, i, hi, h, _ => by omega
  | k + 1, pos, hk, hn, i, hi, h, hb => by
    have hp : pos < s.size := by omega
    rw [nameGo_step s k pos hp, Bool.and_eq_true] at hn
    have hw := width_pos s pos hp
    by_cases hlt : i < pos + (Utf8.decode s pos).2
    · by_cases ha : (s[pos]'hp).toNat < 128
      · rw [decode_ascii s pos hp ha] at hlt hn
        obtain rfl : i = pos := by simp at hlt; omega
        have := hn.1
        simp [runeOk] at this
        omega
      · have h1 := decode_skip s pos hp (by omega) (i - pos) (by omega)
        rw [show pos + (i - pos) = i by omega] at h1
        have e : s.get! i = s[i]'h := get_at s i h
        rw [e] at h1
        omega
    · exact nameGo_bytes s k _ (by omega) hn.2 i (by omega) h hb
theorem nameB_bytes {l : List UInt8} (h : nameB l = true) : ∀ c ∈ l, c.toNat < 128 → (97 ≤ c.toNat ∧ c.toNat ≤ 122) ∨ (48 ≤ c.toNat ∧ c.toNat ≤ 57) := by
  intro c hc hb
  obtain ⟨i, hi, rfl⟩ := List.getElem_of_mem hc
  simp only [nameB, nameS, Bool.and_eq_true] at h
  have hi' : i < (str l).size := by rw [str_size]; exact hi
  have := nameGo_bytes (str l) (str l).size 0 (by omega) h.1 i (Nat.zero_le _) hi' (by rw [str_get]; exact hb)
  rw [str_get] at this
  exact this
theorem nameB_word {l : List UInt8} (h : nameB l = true) : isWord l := by
  refine ⟨fun e => ?_, List.all_eq_true.2 fun c hc => ?_⟩
  · subst e; simp [nameB, nameS, str_size] at h
  · rw [Bool.not_eq_true', parting]
    cases hp : [32, 58, 44, 43, 126, 33, 62, 64].contains c with
    | false => rfl
    | true =>
      exfalso
      have hm : c ∈ [32, 58, 44, 43, 126, 33, 62, (64 : UInt8)] := by simpa using hp
      have h1 := nameB_bytes h c hc
      simp only [List.mem_cons, List.not_mem_nil, or_false] at hm
      rcases hm with rfl | rfl | rfl | rfl | rfl | rfl | rfl | rfl <;> simp at h1
/-- Names, rising, four at most. -/
def rises : List (List UInt8) → Bool
  | a :: b :: t => Op.bytesLess a b && rises (b :: t)
  | _ => true
def setB (ls : List (List UInt8)) : Bool := ls.all nameB && rises ls && decide (ls.length ≤ 4)
theorem setB_words {ls : List (List UInt8)} (h : setB ls = true) : ∀ n ∈ ls, isWord n := by
  simp only [setB, Bool.and_eq_true, List.all_eq_true] at h
  exact fun n hn => nameB_word (h.1.1 n hn)

/-! ### Nodes and pods -/
structure NodeL where
  name : List UInt8
  cpu : Nat
  mem : Nat
  marks : List (List UInt8)
  taints : List (List UInt8)
  closed : Bool
structure PodL where
  name : List UInt8
  shard : Nat
  cpu : Nat
  mem : Nat
  picks : List (List UInt8)
  bears : List (List UInt8)
  alone : Bool
def flagT (b : Bool) : List UInt8 := if b then [33] else []
def tailT (a b : List (List UInt8)) (f : Bool) : List UInt8 := rowT 43 a ++ (rowT 126 b ++ flagT f)
def nodeT (n : NodeL) : List UInt8 := n.name ++ 58 :: (vecT n.cpu n.mem ++ tailT n.marks n.taints n.closed)
def podT (p : PodL) : List UInt8 := p.name ++ 64 :: (Lib.decDigits p.shard ++ 58 :: (vecT p.cpu p.mem ++ tailT p.picks p.bears p.alone))
def pTail (l : List UInt8) : Option (List (List UInt8) × List (List UInt8) × Bool) :=
  (pRow 43 l.length l).bind fun a => (pRow 126 a.2.length a.2).bind fun b => if (pSign 33 b.2).2 = [] then some (a.1, b.1, (pSign 33 b.2).1) else none
def pNode (most : Nat) (l : List UInt8) : Option NodeL :=
  (pName l).bind fun n => (pMust 58 n.2).bind fun l1 => (pVec most l1).bind fun v => (pTail v.2).map fun t => ⟨n.1, v.1.1, v.1.2, t.1, t.2.1, t.2.2⟩
def pPod (l : List UInt8) : Option PodL :=
  (pName l).bind fun n => (pMust 64 n.2).bind fun l1 => (pNum 999999 l1).bind fun k => (pMust 58 k.2).bind fun l2 => (pVec 1099511627776 l2).bind fun v => (pTail v.2).map fun t => ⟨n.1, k.1, v.1.1, v.1.2, t.1, t.2.1, t.2.2⟩
def words (a b : List (List UInt8)) : Prop := (∀ n ∈ a, isWord n) ∧ ∀ n ∈ b, isWord n
theorem flag_no (b : Bool) : ∀ r, flagT b ≠ 126 :: r := by cases b <;> simp [flagT]
theorem noPart_flag (b : Bool) : noPart (flagT b) := by cases b <;> (intro c r e; simp [flagT] at e); rw [← e.1]; decide
theorem noPart_tail (a b : List (List UInt8)) (f : Bool) : noPart (tailT a b f) := noPart_row (by decide) (noPart_row (by decide) (noPart_flag f))
theorem noDig_of_part {t : List UInt8} (h : noPart t) : noDig t := fun c r e => by
  have hp := h c r e
  cases hd : dig c with
  | false => rfl
  | true =>
    have hm : c ∈ [32, 58, 44, 43, 126, 33, 62, (64 : UInt8)] := by simpa [parting] using hp
    have h1 := dig_iff.1 hd
    simp only [List.mem_cons, List.not_mem_nil, or_false] at hm
    rcases hm with rfl | rfl | rfl | rfl | rfl | rfl | rfl | rfl <;> simp at h1
theorem rowT_len (c : UInt8) (ns : List (List UInt8)) : ns.length ≤ (rowT c ns).length := by
  induction ns with
  | nil => simp
  | cons n ns ih => rw [rowT_cons]; simp; omega
theorem pTail_T {a b : List (List UInt8)} {f : Bool} (h : words a b) : pTail (tailT a b f) = some (a, b, f) := by
  unfold pTail tailT
  have hq : ∀ r, rowT 126 b ++ flagT f ≠ 43 :: r := by
    cases b with
    | nil => cases f <;> simp [flagT, rowT_nil]
    | cons n b => simp [rowT_cons]
  have h1 := rowT_len 43 a
  have h2 := rowT_len 126 b
  rw [pRow_app (by decide) (noPart_row (by decide) (noPart_flag f)) hq a _ h.1 (by simp; omega)]
  simp only [Option.bind_some]
  rw [pRow_app (by decide) (noPart_flag f) (flag_no f) b _ h.2 (by simp; omega)]
  simp only [Option.bind_some]
  cases f <;> simp [flagT, pSign]
theorem pTail_inv {l : List UInt8} {a b : List (List UInt8)} {f : Bool} (h : pTail l = some (a, b, f)) : l = tailT a b f ∧ words a b := by
  unfold pTail at h
  rw [Option.bind_eq_some_iff] at h
  obtain ⟨⟨x, l1⟩, h1, h⟩ := h
  rw [Option.bind_eq_some_iff] at h
  obtain ⟨⟨y, l2⟩, h2, h⟩ := h
  obtain ⟨e1, w1, _, _⟩ := pRow_inv _ _ _ _ (Nat.le_refl _) h1
  obtain ⟨e2, w2, _, _⟩ := pRow_inv _ _ _ _ (Nat.le_refl _) h2
  have e3 := pSign_inv 33 l2
  simp only at h e2
  split at h
  · rename_i h3
    simp only [Option.some.injEq, Prod.mk.injEq] at h
    obtain ⟨rfl, rfl, rfl⟩ := h
    rw [h3] at e3
    have e4 : l2 = flagT (pSign 33 l2).1 := by simpa [flagT] using e3
    refine ⟨?_, w1, w2⟩
    show l = rowT 43 x ++ (rowT 126 y ++ flagT (pSign 33 l2).1)
    rw [← e4, ← e2, ← e1]
  · cases h
def NodeL.fine (most : Nat) (n : NodeL) : Prop := isWord n.name ∧ n.cpu ≤ most ∧ n.mem ≤ most ∧ words n.marks n.taints
theorem pNode_T {most : Nat} {n : NodeL} (h : n.fine most) : pNode most (nodeT n) = some n := by
  obtain ⟨h1, h2, h3, h4⟩ := h
  unfold pNode nodeT
  rw [pName_word h1 (noPart_cons (by decide))]
  simp only [Option.bind_some, pMust_cons]
  rw [pVec_app h2 h3 (noDig_of_part (noPart_tail _ _ _))]
  simp only [Option.bind_some]
  rw [pTail_T h4]
  rfl
theorem pNode_inv {most : Nat} {l : List UInt8} {n : NodeL} (h : pNode most l = some n) : l = nodeT n ∧ n.fine most := by
  unfold pNode at h
  rw [Option.bind_eq_some_iff] at h
  obtain ⟨⟨x, l1⟩, h1, h⟩ := h
  rw [Option.bind_eq_some_iff] at h
  obtain ⟨l2, h2, h⟩ := h
  rw [Option.bind_eq_some_iff] at h
  obtain ⟨⟨⟨v1, v2⟩, l3⟩, h3, h⟩ := h
  rw [Option.map_eq_some_iff] at h
  obtain ⟨⟨a, b, f⟩, h4, rfl⟩ := h
  obtain ⟨e1, w1, _⟩ := pName_inv h1
  have e2 := pMust_inv h2
  obtain ⟨e3, q1, q2, _⟩ := pVec_inv h3
  obtain ⟨e4, w4⟩ := pTail_inv h4
  simp only at e2 e4
  exact ⟨by rw [e1, e2, e3, e4]; simp [nodeT], w1, q1, q2, w4⟩
def PodL.fine (p : PodL) : Prop := isWord p.name ∧ p.shard ≤ 999999 ∧ p.cpu ≤ 1099511627776 ∧ p.mem ≤ 1099511627776 ∧ words p.picks p.bears
theorem pPod_T {p : PodL} (h : p.fine) : pPod (podT p) = some p := by
  obtain ⟨h1, h0, h2, h3, h4⟩ := h
  unfold pPod podT
  rw [pName_word h1 (noPart_cons (by decide))]
  simp only [Option.bind_some, pMust_cons]
  rw [pNum_dec h0 (noDig_cons (by decide))]
  simp only [Option.bind_some, pMust_cons]
  rw [pVec_app h2 h3 (noDig_of_part (noPart_tail _ _ _))]
  simp only [Option.bind_some]
  rw [pTail_T h4]
  rfl
theorem pPod_inv {l : List UInt8} {p : PodL} (h : pPod l = some p) : l = podT p ∧ p.fine := by
  unfold pPod at h
  rw [Option.bind_eq_some_iff] at h
  obtain ⟨⟨x, l1⟩, h1, h⟩ := h
  rw [Option.bind_eq_some_iff] at h
  obtain ⟨l2, h2, h⟩ := h
  rw [Option.bind_eq_some_iff] at h
  obtain ⟨⟨k, l3⟩, h3, h⟩ := h
  rw [Option.bind_eq_some_iff] at h
  obtain ⟨l4, h4, h⟩ := h
  rw [Option.bind_eq_some_iff] at h
  obtain ⟨⟨⟨v1, v2⟩, l5⟩, h5, h⟩ := h
  rw [Option.map_eq_some_iff] at h
  obtain ⟨⟨a, b, f⟩, h6, rfl⟩ := h
  obtain ⟨e1, w1, _⟩ := pName_inv h1
  have e2 := pMust_inv h2
  obtain ⟨e3, q0, _⟩ := pNum_inv h3
  have e4 := pMust_inv h4
  obtain ⟨e5, q1, q2, _⟩ := pVec_inv h5
  obtain ⟨e6, w6⟩ := pTail_inv h6
  simp only at e2 e4 e6
  exact ⟨by rw [e1, e2, e3, e4, e5, e6]; simp [podT], w1, q0, q1, q2, w6⟩
end Go.Proofs.YtikamehjeaoilaaGreatDoor
/-! Pods and events, as plain lists of bytes: the program's way to read them, and the document's, come to the same; what is read is what was written. -/
set_option linter.unusedVariables false
set_option linter.unusedSimpArgs false
namespace Go.Proofs.YtikamehjeaoilaaGreatDoor
open Go

/-! ### Cutting, splitting at a byte -/
def cutC (c : UInt8) (l : List UInt8) : List UInt8 × List UInt8 × Bool := if c ∈ l then (l.takeWhile (· ≠ c), (l.dropWhile (· ≠ c)).tail, true) else (l, [], false)
theorem cutC_app {c : UInt8} {a b : List UInt8} (h : c ∉ a) : cutC c (a ++ c :: b) = (a, b, true) := by
  obtain ⟨e1, e2⟩ := takeWhile_app (p := fun x => decide (x ≠ c)) (a := a) (t := c :: b) (List.all_eq_true.2 fun x hx => by simp; rintro rfl; exact h hx) (fun d r e => by cases e; simp)
  unfold cutC
  rw [if_pos (by simp), e1, e2]; rfl
theorem cutC_inv {c : UInt8} {l : List UInt8} (h : (cutC c l).2.2 = true) : l = (cutC c l).1 ++ c :: (cutC c l).2.1 ∧ c ∉ (cutC c l).1 := by
  unfold cutC at h ⊢
  split at h
  · rename_i hc
    rw [if_pos hc]
    simp only
    have h1 : l.takeWhile (· ≠ c) ++ l.dropWhile (· ≠ c) = l := List.takeWhile_append_dropWhile
    have h2 : c ∉ l.takeWhile (· ≠ c) := fun hm => by
      have := List.all_eq_true.1 (takeWhile_all (p := fun x => decide (x ≠ c)) l) c hm
      simp at this
    refine ⟨?_, h2⟩
    match hd : l.dropWhile (· ≠ c) with
    | [] => rw [hd, List.append_nil] at h1; rw [h1] at h2; exact absurd hc h2
    | d :: r =>
      have := dropWhile_head (p := fun x => decide (x ≠ c)) l d r hd
      simp at this
      subst this
      rw [List.tail_cons, ← hd, h1]
  · simp at h
def splitC (c : UInt8) : List UInt8 → List (List UInt8)
  | [] => [[]]
  | x :: t => if x = c then [] :: splitC c t else match splitC c t with | h :: r => (x :: h) :: r | [] => [[x]]
theorem splitC_ne (c : UInt8) (l : List UInt8) : splitC c l ≠ [] := by
  cases l with
  | nil => simp [splitC]
  | cons x t => rw [splitC]; split <;> simp; split <;> simp
theorem rowT_splitC (c : UInt8) : ∀ l, rowT c (splitC c l) = c :: l
  | [] => by simp [splitC, rowT]
  | x :: t => by
    have ih := rowT_splitC c t
    rw [splitC]
    split
    · rename_i hx
      rw [rowT_cons, ih, List.nil_append, hx]
    · match hs : splitC c t with
      | [] => exact absurd hs (splitC_ne c t)
      | h :: r =>
        rw [hs, rowT_cons] at ih
        simp only [List.cons.injEq, true_and] at ih
        simp only
        rw [rowT_cons, List.cons_append, ih]
theorem splitC_row {c : UInt8} : ∀ (n : List UInt8) (ns : List (List UInt8)), c ∉ n → (∀ m ∈ ns, c ∉ m) → splitC c (n ++ rowT c ns) = n :: ns
  | [], [], _, _ => by simp [rowT, splitC]
  | [], m :: ns, _, h => by
    rw [rowT_cons, List.nil_append, splitC, if_pos rfl, splitC_row m ns (h m (List.mem_cons_self ..)) (fun k hk => h k (List.mem_cons_of_mem _ hk))]
  | x :: n, ns, hn, h => by
    have ih := splitC_row n ns (fun hm => hn (List.mem_cons_of_mem _ hm)) h
    rw [List.cons_append, splitC, if_neg (fun e => hn (by rw [e]; exact List.mem_cons_self ..)), ih]
theorem splitC_no (c : UInt8) : ∀ l, ∀ n ∈ splitC c l, c ∉ n
  | [], n, hn => by simp [splitC] at hn; simp [hn]
  | x :: t, n, hn => by
    have ih := splitC_no c t
    rw [splitC] at hn
    split at hn
    · rcases List.mem_cons.1 hn with rfl | h
      · simp
      · exact ih n h
    · rename_i hx
      match hs : splitC c t with
      | [] => exact absurd hs (splitC_ne c t)
      | h :: r =>
        rw [hs] at hn ih
        simp only at hn
        rcases List.mem_cons.1 hn with rfl | h'
        · intro hc
          rcases List.mem_cons.1 hc with e | h2
          · exact hx e.symm
          · exact ih h (List.mem_cons_self ..) h2
        · exact ih n (List.mem_cons_of_mem _ h')

/-! ### The program's way to read a pod -/
instance (l : List UInt8) : Decidable (isNum l) := inferInstanceAs (Decidable (_ ∧ _ ∧ _))
def numP (most : Nat) (l : List UInt8) : Bool := decide (isNum l) && (decide (l.length ≤ 15) && decide (val l ≤ most))
theorem num_len {l : List UInt8} (h : isNum l) : 10 ^ (l.length - 1) ≤ val l ∨ l.length = 1 := by
  obtain ⟨h1, h2, h3⟩ := h
  match l, h1 with
  | c :: t, _ =>
    by_cases hc : c = 48
    · right; exact h3 (by rw [hc]; rfl)
    · left
      rw [val_cons]
      simp only [List.all_cons, Bool.and_eq_true] at h2
      have hd := dig_iff.1 h2.1
      have hn : c.toNat ≠ 48 := fun e => hc (UInt8.toNat_inj.1 e)
      have := Nat.mul_le_mul_right (10 ^ t.length) (show 1 ≤ c.toNat - 48 by omega)
      simp only [List.length_cons, Nat.add_sub_cancel]
      omega
theorem numP_iff {most : Nat} (hm : most ≤ 999999999999999) {l : List UInt8} : numP most l = true ↔ isNum l ∧ val l ≤ most := by
  unfold numP
  simp only [Bool.and_eq_true, decide_eq_true_eq]
  refine ⟨fun h => ⟨h.1, h.2.2⟩, fun h => ⟨h.1, ?_, h.2⟩⟩
  rcases num_len h.1 with h1 | h1
  · rcases Nat.lt_or_ge 15 l.length with h2 | h2
    · have h3 : 10 ^ 15 ≤ 10 ^ (l.length - 1) := Nat.pow_le_pow_right (by decide) (by omega)
      have : (10 : Nat) ^ 15 = 1000000000000000 := by decide
      omega
    · exact h2
  · omega
theorem numP_dec {most n : Nat} (hm : most ≤ 999999999999999) (h : n ≤ most) : numP most (Lib.decDigits n) = true := (numP_iff hm).2 ⟨dec_num n, by rw [val_dec]; exact h⟩
def setP (sign stop : UInt8) (l : List UInt8) : List (List UInt8) × List UInt8 × Bool :=
  let s := l.takeWhile (· ≠ stop)
  let ls := if s = [] then [] else (splitC sign s).tail
  (ls, l.dropWhile (· ≠ stop), (decide (s = []) || decide (s.head? = some sign)) && setB ls)
def stopP (c : UInt8) : Bool := decide (c ≠ 43) && decide (c ≠ 126)
def strip (s : List UInt8) : List UInt8 := if decide (s.getLast? = some 33) = true then s.dropLast else s
def podP (s : List UInt8) : Option PodL :=
  let f := decide (s.getLast? = some 33)
  let a := cutC 64 (strip s)
  let b := cutC 58 a.2.1
  let v := cutC 44 (b.2.1.takeWhile stopP)
  let x := setP 43 126 (b.2.1.dropWhile stopP)
  let y := setP 126 33 x.2.1
  if (((((((a.2.2 && b.2.2) && numP 999999 b.1) && (v.2.2 && (numP 1099511627776 v.1 && numP 1099511627776 v.2.1))) && x.2.2) && y.2.2) && decide (y.2.1 = [])) && nameB a.1) = true then some ⟨a.1, val b.1, val v.1, val v.2.1, x.1, y.1, f⟩ else none
def PodL.good (p : PodL) : Prop := nameB p.name = true ∧ p.shard ≤ 999999 ∧ p.cpu ≤ 1099511627776 ∧ p.mem ≤ 1099511627776 ∧ setB p.picks = true ∧ setB p.bears = true
theorem PodL.good.fine {p : PodL} (h : p.good) : p.fine := ⟨nameB_word h.1, h.2.1, h.2.2.1, h.2.2.2.1, setB_words h.2.2.2.2.1, setB_words h.2.2.2.2.2⟩
theorem word_not {n : List UInt8} (h : isWord n) {c : UInt8} (hc : parting c = true) : c ∉ n := fun hm => by
  have := List.all_eq_true.1 h.2 c hm
  simp [hc] at this
theorem dec_not (n : Nat) {c : UInt8} (hc : dig c = false) : c ∉ Lib.decDigits n := fun hm => by
  have := List.all_eq_true.1 (decDigits_all n) c hm
  rw [hc] at this; cases this
theorem setP_T {sign stop : UInt8} (hs : parting sign = true) (ht : parting stop = true) (hne : sign ≠ stop) {ls : List (List UInt8)} (h : setB ls = true) {t : List UInt8} (htt : ∀ c r, t = c :: r → c = stop) : setP sign stop (rowT sign ls ++ t) = (ls, t, true) := by
  have hw := setB_words h
  have hall : (rowT sign ls).all (fun x => decide (x ≠ stop)) = true := by
    rw [List.all_eq_true]
    intro x hx
    simp only [rowT, List.mem_flatMap, List.mem_cons] at hx
    obtain ⟨n, hn, rfl | hx⟩ := hx
    · simpa using hne
    · have := word_not (hw n hn) ht
      simp; rintro rfl; exact this hx
  obtain ⟨e1, e2⟩ := takeWhile_app (p := fun x => decide (x ≠ stop)) hall (t := t) (fun c r e => by simp [htt c r e])
  unfold setP
  rw [e1, e2]
  cases ls with
  | nil => simp [rowT_nil, h]
  | cons n ns =>
    have hsp : splitC sign (rowT sign (n :: ns)) = [] :: n :: ns := by
      have := splitC_row (c := sign) [] (n :: ns) (by simp) (fun m hm => word_not (hw m hm) hs)
      simpa using this
    have hne : rowT sign (n :: ns) ≠ [] := by rw [rowT_cons]; simp
    simp only [hne, if_false, hsp, List.tail_cons, h, Bool.and_true]
    rw [rowT_cons]; simp
theorem setP_inv {sign stop : UInt8} {l : List UInt8} (h : (setP sign stop l).2.2 = true) : l = rowT sign (setP sign stop l).1 ++ (setP sign stop l).2.1 ∧ setB (setP sign stop l).1 = true := by
  unfold setP at h ⊢
  simp only [Bool.and_eq_true, Bool.or_eq_true, decide_eq_true_eq] at h ⊢
  refine ⟨?_, h.2⟩
  have e0 : l.takeWhile (fun x => decide (x ≠ stop)) ++ l.dropWhile (fun x => decide (x ≠ stop)) = l := List.takeWhile_append_dropWhile
  have hr : rowT sign (if l.takeWhile (fun x => decide (x ≠ stop)) = [] then [] else (splitC sign (l.takeWhile fun x => decide (x ≠ stop))).tail) = l.takeWhile fun x => decide (x ≠ stop) := by
    rcases h.1 with h1 | h1
    · rw [if_pos h1, h1]; rfl
    · match hs : l.takeWhile (fun x => decide (x ≠ stop)) with
      | [] => rw [hs] at h1; simp at h1
      | c :: s =>
        rw [hs] at h1
        simp at h1
        subst h1
        rw [if_neg (by simp), splitC, if_pos rfl, List.tail_cons, rowT_splitC]
  rw [hr, e0]
theorem row_all {c : UInt8} {p : UInt8 → Prop} (hc : p c) {ls : List (List UInt8)} (h : ∀ n ∈ ls, ∀ x ∈ n, p x) : ∀ x ∈ rowT c ls, p x := by
  intro x hx
  simp only [rowT, List.mem_flatMap, List.mem_cons] at hx
  obtain ⟨n, hn, rfl | hx⟩ := hx
  · exact hc
  · exact h n hn x hx
theorem podP_T {p : PodL} (h : p.good) : podP (podT p) = some p := by
  have hf := h.fine
  obtain ⟨h1, h2, h3, h4, h5, h6⟩ := h
  obtain ⟨w1, _, _, _, w5, w6⟩ := hf
  -- what stands ahead of the last sign
  have hbody : podT p = (p.name ++ 64 :: (Lib.decDigits p.shard ++ 58 :: (vecT p.cpu p.mem ++ (rowT 43 p.picks ++ rowT 126 p.bears)))) ++ flagT p.alone := by simp [podT, tailT]
  have hno : (33 : UInt8) ∉ p.name ++ 64 :: (Lib.decDigits p.shard ++ 58 :: (vecT p.cpu p.mem ++ (rowT 43 p.picks ++ rowT 126 p.bears))) := by
    have a1 := word_not w1 (c := 33) (by decide)
    have a2 := dec_not p.shard (c := 33) (by decide)
    have a3 := dec_not p.cpu (c := 33) (by decide)
    have a4 := dec_not p.mem (c := 33) (by decide)
    have a5 : (33 : UInt8) ∉ rowT 43 p.picks := fun hm => row_all (p := fun x => x ≠ 33) (c := 43) (by decide) (fun n hn x hx e => word_not (w5 n hn) (c := 33) (by decide) (e ▸ hx)) 33 hm rfl
    have a6 : (33 : UInt8) ∉ rowT 126 p.bears := fun hm => row_all (p := fun x => x ≠ 33) (c := 126) (by decide) (fun n hn x hx e => word_not (w6 n hn) (c := 33) (by decide) (e ▸ hx)) 33 hm rfl
    simp [vecT, a1, a2, a3, a4, a5, a6]
  generalize hB : p.name ++ 64 :: (Lib.decDigits p.shard ++ 58 :: (vecT p.cpu p.mem ++ (rowT 43 p.picks ++ rowT 126 p.bears))) = B at hbody hno
  have hlast : decide ((podT p).getLast? = some 33) = p.alone := by
    rw [hbody]
    cases p.alone with
    | true => simp [flagT]
    | false =>
      simp only [flagT, Bool.false_eq_true, if_false, List.append_nil, decide_eq_false_iff_not]
      intro e
      exact hno (List.mem_of_getLast? e)
  have hcut : (if decide ((podT p).getLast? = some 33) = true then (podT p).dropLast else podT p) = B := by
    rw [hlast, hbody]
    cases p.alone <;> simp [flagT]
  have ev : ((vecT p.cpu p.mem ++ (rowT 43 p.picks ++ rowT 126 p.bears)).takeWhile stopP, (vecT p.cpu p.mem ++ (rowT 43 p.picks ++ rowT 126 p.bears)).dropWhile stopP) = (vecT p.cpu p.mem, rowT 43 p.picks ++ rowT 126 p.bears) := by
    have hd : ∀ n : Nat, ∀ x ∈ Lib.decDigits n, stopP x = true := fun n x hx => by
      simp only [stopP, Bool.and_eq_true, decide_eq_true_eq]
      exact ⟨fun e => dec_not n (c := 43) (by decide) (e ▸ hx), fun e => dec_not n (c := 126) (by decide) (e ▸ hx)⟩
    obtain ⟨e1, e2⟩ := takeWhile_app (p := stopP) (a := vecT p.cpu p.mem) (t := rowT 43 p.picks ++ rowT 126 p.bears) (by
      rw [List.all_eq_true]
      intro x hx
      simp only [vecT, List.mem_append, List.mem_cons] at hx
      rcases hx with hx | rfl | hx
      · exact hd _ x hx
      · decide
      · exact hd _ x hx) (fun c r e => by
        cases hp : p.picks with
        | cons a b => rw [hp, rowT_cons] at e; cases e; decide
        | nil =>
          rw [hp, rowT_nil, List.nil_append] at e
          cases hq : p.bears with
          | cons a b => rw [hq, rowT_cons] at e; cases e; decide
          | nil => rw [hq] at e; cases e)
    rw [e1, e2]
  simp only [Prod.mk.injEq] at ev
  have es1 : setP 43 126 (rowT 43 p.picks ++ rowT 126 p.bears) = (p.picks, rowT 126 p.bears, true) := setP_T (by decide) (by decide) (by decide) h5 (fun c r e => by
    cases hq : p.bears with
    | cons a b => rw [hq, rowT_cons] at e; cases e; rfl
    | nil => rw [hq] at e; cases e)
  have es2 : setP 126 33 (rowT 126 p.bears) = (p.bears, [], true) := by
    have := setP_T (sign := 126) (stop := 33) (by decide) (by decide) (by decide) h6 (t := []) (fun c r e => by cases e)
    rwa [List.append_nil] at this
  unfold podP
  simp only [show strip (podT p) = B from hcut]
  rw [← hB, cutC_app (word_not w1 (by decide))]
  simp only
  rw [cutC_app (dec_not _ (by decide)), hlast]
  simp only [ev.1, ev.2, es1, es2]
  rw [show vecT p.cpu p.mem = Lib.decDigits p.cpu ++ 44 :: Lib.decDigits p.mem from rfl, cutC_app (dec_not _ (by decide))]
  simp only [numP_dec (by decide) h2, numP_dec (by decide) h3, numP_dec (by decide) h4, h1, Bool.and_self, decide_true, if_true, val_dec]
theorem podP_inv {s : List UInt8} {p : PodL} (h : podP s = some p) : s = podT p ∧ p.good := by
  unfold podP at h
  simp only at h
  split at h
  · rename_i hc
    simp only [Bool.and_eq_true, decide_eq_true_eq] at hc
    obtain ⟨⟨⟨⟨⟨⟨⟨c1, c2⟩, c3⟩, c4, c5, c6⟩, c7⟩, c8⟩, c9⟩, c10⟩ := hc
    generalize hs : strip s = s1 at *
    unfold strip at hs
    generalize hf : decide (s.getLast? = some 33) = f at *
    obtain ⟨ea, na⟩ := cutC_inv c1
    obtain ⟨eb, nb⟩ := cutC_inv c2
    generalize cutC 64 s1 = a at *
    generalize cutC 58 a.2.1 = b at *
    obtain ⟨ev, nv⟩ := cutC_inv c4
    have ew : b.2.1.takeWhile stopP ++ b.2.1.dropWhile stopP = b.2.1 := List.takeWhile_append_dropWhile
    generalize b.2.1.takeWhile stopP = v0 at *
    generalize b.2.1.dropWhile stopP = r0 at *
    generalize cutC 44 v0 = v at *
    obtain ⟨ex, gx⟩ := setP_inv c7
    generalize setP 43 126 r0 = x at *
    obtain ⟨ey, gy⟩ := setP_inv c8
    generalize setP 126 33 x.2.1 = y at *
    obtain ⟨i1, l1⟩ := (numP_iff (by decide)).1 c3
    obtain ⟨i2, l2⟩ := (numP_iff (by decide)).1 c5
    obtain ⟨i3, l3⟩ := (numP_iff (by decide)).1 c6
    simp only [Option.some.injEq] at h
    subst h
    refine ⟨?_, c10, l1, l2, l3, gx, gy⟩
    have e1 : s1 = a.1 ++ 64 :: (Lib.decDigits (val b.1) ++ 58 :: (vecT (val v.1) (val v.2.1) ++ (rowT 43 x.1 ++ rowT 126 y.1))) := by
      rw [c9, List.append_nil] at ey
      rw [vecT, num_dec i1, num_dec i2, num_dec i3, ← ey, ← ex, ← ev, ew, ← eb, ← ea]
    have e2 : s = s1 ++ flagT f := by
      cases f with
      | true =>
        simp only [if_true] at hs
        simp only [decide_eq_true_eq] at hf
        rw [← hs]
        obtain ⟨ys, hys⟩ := List.getLast?_eq_some_iff.1 hf
        rw [hys]
        simp [flagT]
      | false => simp only [Bool.false_eq_true, if_false] at hs; simp [flagT, hs]
    rw [e2, e1]
    simp [podT, tailT]
  · cases h
/-- A word that is a pod, by the document. -/
def podW (s : List UInt8) : Option PodL := (pPod s).bind fun p => if (nameB p.name && (setB p.picks && setB p.bears)) = true then some p else none
theorem podW_T {p : PodL} (h : p.good) : podW (podT p) = some p := by
  unfold podW
  rw [pPod_T h.fine]
  simp only [Option.bind_some, h.1, h.2.2.2.2.1, h.2.2.2.2.2, Bool.and_self, if_true]
theorem podW_inv {s : List UInt8} {p : PodL} (h : podW s = some p) : s = podT p ∧ p.good := by
  unfold podW at h
  rw [Option.bind_eq_some_iff] at h
  obtain ⟨q, h1, h⟩ := h
  split at h
  · rename_i hc
    simp only [Option.some.injEq] at h
    subst h
    simp only [Bool.and_eq_true] at hc
    obtain ⟨e, f1, f2, f3, f4, _⟩ := pPod_inv h1
    exact ⟨e, hc.1, f2, f3, f4, hc.2.1, hc.2.2⟩
  · cases h
end Go.Proofs.YtikamehjeaoilaaGreatDoor
