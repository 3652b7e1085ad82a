/- The parts of a line, as plain lists of bytes: numbers, names, signs; how they are read, how they are written. -/
import Derived.Lib.ItoaNum
import Derived.Lib.Hide
set_option linter.unusedVariables false
set_option linter.unusedSimpArgs false
namespace Go.Proofs.YtgkjlpielikecaaGreatDoor
open Go

/-! ### Numbers -/
def dig (c : UInt8) : Bool := decide (48 ≤ c.toNat) && decide (c.toNat ≤ 57)
theorem dig_iff {c : UInt8} : dig c = true ↔ 48 ≤ c.toNat ∧ c.toNat ≤ 57 := by simp [dig]
def valF (n : Nat) (l : List UInt8) : Nat := l.foldl (fun n c => n * 10 + (c.toNat - 48)) n
def val (l : List UInt8) : Nat := valF 0 l
theorem valF_snoc (n : Nat) (l : List UInt8) (c : UInt8) : valF n (l ++ [c]) = valF n l * 10 + (c.toNat - 48) := by simp [valF]
theorem valF_eq (l : List UInt8) : ∀ n, valF n l = n * 10 ^ l.length + val l := by
  induction l with
  | nil => intro n; simp [valF, val]
  | cons c l ih =>
    intro n
    have h1 := ih (n * 10 + (c.toNat - 48))
    have h2 := ih (0 * 10 + (c.toNat - 48))
    show valF (n * 10 + (c.toNat - 48)) l = _
    rw [h1]
    show _ = n * 10 ^ (l.length + 1) + valF (0 * 10 + (c.toNat - 48)) l
    rw [h2, Nat.pow_succ, Nat.add_mul, Nat.mul_assoc, Nat.mul_comm 10, Nat.zero_mul, Nat.zero_add]
    omega
theorem val_snoc (l : List UInt8) (c : UInt8) : val (l ++ [c]) = val l * 10 + (c.toNat - 48) := valF_snoc 0 l c
theorem val_cons (c : UInt8) (l : List UInt8) : val (c :: l) = (c.toNat - 48) * 10 ^ l.length + val l := by
  have := valF_eq l (0 * 10 + (c.toNat - 48))
  show valF (0 * 10 + (c.toNat - 48)) l = _
  rw [this]; simp
theorem val_take_le (l : List UInt8) (k : Nat) : val (l.take k) ≤ val l := by
  induction l generalizing k with
  | nil => simp
  | cons c l ih =>
    cases k with
    | zero => simp [val, valF]
    | succ k =>
      rw [List.take_succ_cons, val_cons, val_cons]
      have h1 := ih k
      have h2 : 10 ^ (l.take k).length ≤ 10 ^ l.length := Nat.pow_le_pow_right (by decide) (by simp; omega)
      have h3 := Nat.mul_le_mul_left (c.toNat - 48) h2
      omega
theorem val_lt (l : List UInt8) (h : l.all dig = true) : val l < 10 ^ l.length := by
  induction l with
  | nil => simp [val, valF]
  | cons c l ih =>
    simp only [List.all_cons, Bool.and_eq_true] at h
    have h1 := ih h.2
    have h2 := dig_iff.1 h.1
    rw [val_cons, List.length_cons, Nat.pow_succ]
    have h3 : (c.toNat - 48) * 10 ^ l.length ≤ 9 * 10 ^ l.length := Nat.mul_le_mul_right _ (by omega)
    omega
/-- A numeral: digits, no nought ahead. -/
def isNum (l : List UInt8) : Prop := l ≠ [] ∧ l.all dig = true ∧ (l.head? = some 48 → l.length = 1)
theorem decDigits_all (u : Nat) : (Lib.decDigits u).all dig = true := by
  induction u using Nat.strongRecOn with
  | _ u ih =>
    rw [Lib.decDigits]
    split
    · simp [dig]; omega
    · rw [List.all_append, ih _ (by omega)]
      simp [dig]; omega
theorem val_dec (u : Nat) : val (Lib.decDigits u) = u := by
  induction u using Nat.strongRecOn with
  | _ u ih =>
    rw [Lib.decDigits]
    split
    · simp [val, valF]; omega
    · rw [val_snoc, ih _ (by omega)]
      simp; omega
theorem dec_ne (u : Nat) : Lib.decDigits u ≠ [] := by rw [Lib.decDigits]; split <;> simp
theorem val_pos {c : UInt8} {l : List UInt8} (h : dig c = true) (hc : c ≠ 48) : 1 ≤ val (c :: l) := by
  rw [val_cons]
  have h1 := dig_iff.1 h
  have h2 : c.toNat ≠ 48 := fun e => hc (UInt8.toNat_inj.1 e)
  have h3 : 1 ≤ 10 ^ l.length := Nat.one_le_pow _ _ (by decide)
  have h4 : 1 * 1 ≤ (c.toNat - 48) * 10 ^ l.length := Nat.mul_le_mul (by omega) h3
  omega
theorem dec_num (u : Nat) : isNum (Lib.decDigits u) := by
  refine ⟨dec_ne u, decDigits_all u, ?_⟩
  induction u using Nat.strongRecOn with
  | _ u ih =>
    rw [Lib.decDigits]
    split
    · simp
    · intro h
      have hn := dec_ne (u / 10)
      have h1 : (Lib.decDigits (u / 10)).head? = some 48 := by
        match hd : Lib.decDigits (u / 10), hn with
        | x :: t, _ => rw [hd] at h; simpa using h
      have h2 := ih (u / 10) (by omega) h1
      have h3 := val_dec (u / 10)
      match hd : Lib.decDigits (u / 10), h2 with
      | [x], _ =>
        rw [hd] at h1 h3
        simp at h1
        subst h1
        simp [val, valF] at h3
        omega
theorem num_dec {l : List UInt8} (h : isNum l) : Lib.decDigits (val l) = l := by
  obtain ⟨h1, h2, h3⟩ := h
  generalize hn : l.length = n
  induction n generalizing l with
  | zero => exact absurd (List.length_eq_zero_iff.1 hn) h1
  | succ n ih =>
    obtain ⟨a, c, rfl⟩ : ∃ a c, l = a ++ [c] := ⟨l.dropLast, l.getLast h1, (List.dropLast_concat_getLast h1).symm⟩
    simp only [List.all_append, List.all_cons, List.all_nil, Bool.and_true, Bool.and_eq_true] at h2
    have hc := dig_iff.1 h2.2
    have hcc : UInt8.ofNat (48 + (c.toNat - 48)) = c := by rw [show 48 + (c.toNat - 48) = c.toNat by omega]; simp
    rw [val_snoc]
    match a, h1, h2, h3, hn with
    | [], _, _, _, _ =>
      rw [Lib.decDigits, dif_pos (by simp [val, valF]; omega)]
      simp [val, valF, hcc]
    | x :: t, _, h2, h3, hn =>
      have hx : x ≠ 48 := by
        rintro rfl
        have := h3 (by simp)
        simp at this
      have h4 := val_pos (l := t) (by simp at h2; exact h2.1.1) hx
      have h5 := ih (l := x :: t) (by simp) h2.1 (by intro e; simp at e; exact absurd e hx) (by simp at hn ⊢; omega)
      rw [Lib.decDigits, dif_neg (by omega)]
      rw [show (val (x :: t) * 10 + (c.toNat - 48)) / 10 = val (x :: t) by omega, h5, show (val (x :: t) * 10 + (c.toNat - 48)) % 10 = c.toNat - 48 by omega, hcc]

/-- What is left begins with no digit. -/
def noDig (t : List UInt8) : Prop := ∀ c r, t = c :: r → dig c = false
def pNum (most : Nat) (l : List UInt8) : Option (Nat × List UInt8) :=
  if l.takeWhile dig = [] ∨ ((l.takeWhile dig).head? = some 48 ∧ 1 < (l.takeWhile dig).length) ∨ most < val (l.takeWhile dig) then none
  else some (val (l.takeWhile dig), l.dropWhile dig)
theorem takeWhile_app {α : Type} {p : α → Bool} {a t : List α} (h : a.all p = true) (ht : ∀ c r, t = c :: r → p c = false) : (a ++ t).takeWhile p = a ∧ (a ++ t).dropWhile p = t := by
  induction a with
  | nil =>
    cases t with
    | nil => simp
    | cons c r => simp [List.takeWhile_cons, List.dropWhile_cons, ht c r rfl]
  | cons x a ih =>
    simp only [List.all_cons, Bool.and_eq_true] at h
    have := ih h.2
    simp [List.takeWhile_cons, List.dropWhile_cons, h.1, this.1, this.2]
theorem dropWhile_head {α : Type} {p : α → Bool} (l : List α) : ∀ c r, l.dropWhile p = c :: r → p c = false := by
  induction l with
  | nil => intro c r h; simp at h
  | cons x l ih =>
    intro c r h
    rw [List.dropWhile_cons] at h
    cases hx : p x with
    | true => rw [hx] at h; simp at h; exact ih c r h
    | false =>
      rw [hx] at h
      simp only [Bool.false_eq_true, if_false, List.cons.injEq] at h
      rw [← h.1]; exact hx
theorem takeWhile_all {α : Type} {p : α → Bool} (l : List α) : (l.takeWhile p).all p = true := by
  induction l with
  | nil => rfl
  | cons x l ih =>
    rw [List.takeWhile_cons]
    cases hx : p x with
    | true => simp [hx, ih]
    | false => simp
theorem pNum_dec {most n : Nat} {t : List UInt8} (h : n ≤ most) (ht : noDig t) : pNum most (Lib.decDigits n ++ t) = some (n, t) := by
  obtain ⟨h1, h2, h3⟩ := dec_num n
  obtain ⟨e1, e2⟩ := takeWhile_app h2 ht
  unfold pNum
  rw [e1, e2, val_dec, if_neg]
  rintro (h | ⟨h4, h5⟩ | h)
  · exact h1 h
  · have := h3 h4; omega
  · omega
theorem pNum_inv {most n : Nat} {l t : List UInt8} (h : pNum most l = some (n, t)) : l = Lib.decDigits n ++ t ∧ n ≤ most ∧ noDig t := by
  unfold pNum at h
  split at h
  · cases h
  · rename_i hn
    simp only [Option.some.injEq, Prod.mk.injEq] at h
    obtain ⟨rfl, rfl⟩ := h
    have hi : isNum (l.takeWhile dig) := ⟨fun e => hn (.inl e), takeWhile_all l, fun e => by
      have : ¬ 1 < (l.takeWhile dig).length := fun h => hn (.inr (.inl ⟨e, h⟩))
      have h0 : (l.takeWhile dig).length ≠ 0 := fun h => hn (.inl (List.length_eq_zero_iff.1 h))
      omega⟩
    refine ⟨by rw [num_dec hi]; exact List.takeWhile_append_dropWhile.symm, by omega, dropWhile_head l⟩

/-! ### Names, signs -/
def parting (c : UInt8) : Bool := [32, 58, 44, 43, 126, 33, 62, 64].contains c
def noPart (t : List UInt8) : Prop := ∀ c r, t = c :: r → parting c = true
def pName (l : List UInt8) : Option (List UInt8 × List UInt8) := if l.takeWhile (fun c => !parting c) = [] then none else some (l.takeWhile (fun c => !parting c), l.dropWhile (fun c => !parting c))
/-- A word that a name may be, as far as reading goes. -/
def isWord (l : List UInt8) : Prop := l ≠ [] ∧ l.all (fun c => !parting c) = true
theorem pName_word {n t : List UInt8} (h : isWord n) (ht : noPart t) : pName (n ++ t) = some (n, t) := by
  obtain ⟨e1, e2⟩ := takeWhile_app h.2 (t := t) (fun c r e => by simp [ht c r e])
  unfold pName
  rw [e1, e2, if_neg h.1]
theorem pName_inv {l n t : List UInt8} (h : pName l = some (n, t)) : l = n ++ t ∧ isWord n ∧ noPart t := by
  unfold pName at h
  split at h
  · cases h
  · rename_i hn
    simp only [Option.some.injEq, Prod.mk.injEq] at h
    obtain ⟨rfl, rfl⟩ := h
    exact ⟨List.takeWhile_append_dropWhile.symm, ⟨hn, takeWhile_all l⟩, fun c r e => by simpa using dropWhile_head l c r e⟩
def pSign (c : UInt8) : List UInt8 → Bool × List UInt8
  | x :: t => if x = c then (true, t) else (false, x :: t)
  | [] => (false, [])
def pMust (c : UInt8) (l : List UInt8) : Option (List UInt8) := if (pSign c l).1 = true then some (pSign c l).2 else none
theorem pMust_cons (c : UInt8) (t : List UInt8) : pMust c (c :: t) = some t := by simp [pMust, pSign]
theorem pMust_inv {c : UInt8} {l t : List UInt8} (h : pMust c l = some t) : l = c :: t := by
  unfold pMust at h
  cases l with
  | nil => simp [pSign] at h
  | cons x l =>
    by_cases hx : x = c
    · simp [pSign, hx] at h; rw [hx, h]
    · simp [pSign, hx] at h
theorem pSign_app {c : UInt8} {b : Bool} {t : List UInt8} (h : b = false → ∀ r, t ≠ c :: r) : pSign c ((if b then [c] else []) ++ t) = (b, t) := by
  cases b with
  | true => simp [pSign]
  | false =>
    cases t with
    | nil => rfl
    | cons x t =>
      have : x ≠ c := fun e => h rfl t (by rw [e])
      simp [pSign, this]
theorem pSign_inv (c : UInt8) (l : List UInt8) : l = (if (pSign c l).1 then [c] else []) ++ (pSign c l).2 := by
  cases l with
  | nil => rfl
  | cons x l =>
    by_cases hx : x = c
    · simp [pSign, hx]
    · simp [pSign, hx]
def pVec (most : Nat) (l : List UInt8) : Option ((Nat × Nat) × List UInt8) :=
  (pNum most l).bind fun a => (pMust 44 a.2).bind fun l1 => (pNum most l1).map fun b => ((a.1, b.1), b.2)
def vecT (a b : Nat) : List UInt8 := Lib.decDigits a ++ 44 :: Lib.decDigits b
theorem noDig_cons {c : UInt8} {t : List UInt8} (h : dig c = false) : noDig (c :: t) := fun d r e => by cases e; exact h
theorem noPart_cons {c : UInt8} {t : List UInt8} (h : parting c = true) : noPart (c :: t) := fun d r e => by cases e; exact h
theorem pVec_app {most a b : Nat} {t : List UInt8} (ha : a ≤ most) (hb : b ≤ most) (ht : noDig t) : pVec most (vecT a b ++ t) = some ((a, b), t) := by
  unfold pVec vecT
  rw [List.append_assoc, pNum_dec ha (by rw [List.cons_append]; exact noDig_cons (by decide))]
  simp only [Option.bind_some, List.cons_append, pMust_cons]
  rw [pNum_dec hb ht]; rfl
theorem pVec_inv {most a b : Nat} {l t : List UInt8} (h : pVec most l = some ((a, b), t)) : l = vecT a b ++ t ∧ a ≤ most ∧ b ≤ most ∧ noDig t := by
  unfold pVec at h
  rw [Option.bind_eq_some_iff] at h
  obtain ⟨⟨x, l1⟩, h1, h⟩ := h
  rw [Option.bind_eq_some_iff] at h
  obtain ⟨l2, h2, h⟩ := h
  rw [Option.map_eq_some_iff] at h
  obtain ⟨⟨y, l3⟩, h3, h⟩ := h
  simp only [Prod.mk.injEq] at h
  obtain ⟨⟨rfl, rfl⟩, rfl⟩ := h
  obtain ⟨e1, p1, _⟩ := pNum_inv h1
  have e2 := pMust_inv h2
  obtain ⟨e3, p3, q3⟩ := pNum_inv h3
  simp only at e2
  exact ⟨by rw [e1, e2, e3]; simp [vecT], p1, p3, q3⟩

/-- Names, a sign ahead of each. -/
def pRow (c : UInt8) : Nat → List UInt8 → Option (List (List UInt8) × List UInt8)
  | k + 1, l => if (pSign c l).1 = true then (pName (pSign c l).2).bind fun n => (pRow c k n.2).map fun r => (n.1 :: r.1, r.2) else some ([], l)
  | 0, l => some ([], l)
def rowT (c : UInt8) (ns : List (List UInt8)) : List UInt8 := ns.flatMap fun n => c :: n
theorem rowT_cons (c : UInt8) (n : List UInt8) (ns : List (List UInt8)) : rowT c (n :: ns) = c :: (n ++ rowT c ns) := by simp [rowT]
theorem rowT_nil (c : UInt8) : rowT c [] = [] := rfl
theorem noPart_row {c : UInt8} {ns : List (List UInt8)} {t : List UInt8} (hc : parting c = true) (ht : noPart t) : noPart (rowT c ns ++ t) := by
  cases ns with
  | nil => exact ht
  | cons n ns => rw [rowT_cons]; exact noPart_cons hc
theorem pRow_app {c : UInt8} (hc : parting c = true) {t : List UInt8} (ht : noPart t) (htc : ∀ r, t ≠ c :: r) : ∀ (ns : List (List UInt8)) (k : Nat), (∀ n ∈ ns, isWord n) → ns.length ≤ k → pRow c k (rowT c ns ++ t) = some (ns, t) := by
  intro ns
  induction ns with
  | nil =>
    intro k _ _
    rw [rowT_nil, List.nil_append]
    cases k with
    | zero => rfl
    | succ k =>
      have : pSign c t = (false, t) := pSign_app (b := false) (fun _ => htc)
      simp [pRow, this]
  | cons n ns ih =>
    intro k h hk
    obtain ⟨k, rfl⟩ : ∃ m, k = m + 1 := ⟨k - 1, by simp at hk; omega⟩
    rw [rowT_cons, List.cons_append, List.append_assoc]
    have e : pSign c (c :: (n ++ (rowT c ns ++ t))) = (true, n ++ (rowT c ns ++ t)) := by simp [pSign]
    rw [pRow, e]
    simp only [if_true]
    rw [pName_word (h n (List.mem_cons_self ..)) (noPart_row hc ht)]
    simp only [Option.bind_some]
    rw [ih k (fun m hm => h m (List.mem_cons_of_mem _ hm)) (by simp at hk; omega)]
    rfl
theorem pRow_inv {c : UInt8} : ∀ (k : Nat) (l : List UInt8) (ns : List (List UInt8)) (t : List UInt8), l.length ≤ k → pRow c k l = some (ns, t) → l = rowT c ns ++ t ∧ (∀ n ∈ ns, isWord n) ∧ (∀ r, t ≠ c :: r) ∧ (ns ≠ [] → noPart t) := by
  intro k
  induction k with
  | zero =>
    intro l ns t hl h
    obtain rfl := List.length_eq_zero_iff.1 (Nat.le_zero.1 hl)
    simp only [pRow, Option.some.injEq, Prod.mk.injEq] at h
    obtain ⟨rfl, rfl⟩ := h
    exact ⟨rfl, by simp, by simp, by simp⟩
  | succ k ih =>
    intro l ns t hl h
    rw [pRow] at h
    have e := pSign_inv c l
    split at h
    · rename_i hs
      rw [hs] at e
      simp only [if_true, List.cons_append, List.nil_append] at e
      rw [Option.bind_eq_some_iff] at h
      obtain ⟨⟨n, l1⟩, h1, h⟩ := h
      rw [Option.map_eq_some_iff] at h
      obtain ⟨⟨ms, l2⟩, h2, h⟩ := h
      simp only [Prod.mk.injEq] at h
      obtain ⟨rfl, rfl⟩ := h
      obtain ⟨e1, w1, p1⟩ := pName_inv h1
      have hlen : l1.length ≤ k := by
        have a1 := congrArg List.length e
        have a2 := congrArg List.length e1
        simp at a1 a2
        omega
      obtain ⟨e2, w2, p2, q2⟩ := ih l1 ms l2 hlen h2
      refine ⟨by rw [rowT_cons, e, e1, e2]; simp, ?_, p2, fun _ => ?_⟩
      · intro m hm
        rcases List.mem_cons.1 hm with rfl | hm
        · exact w1
        · exact w2 m hm
      · cases ms with
        | nil => simp only [rowT_nil, List.nil_append] at e2; rw [← e2]; exact p1
        | cons a b => exact q2 (by simp)
    · rename_i hs
      simp only [Option.some.injEq, Prod.mk.injEq] at h
      obtain ⟨rfl, rfl⟩ := h
      refine ⟨rfl, by simp, fun r hr => hs (by rw [hr]; simp [pSign]), by simp⟩
end Go.Proofs.YtgkjlpielikecaaGreatDoor
