/- Pods and events, as plain lists of bytes: the program's way to read them, and the document's, come to the same; what is read is what was written. -/
import Derived.Test.YtgkjlpielikecaaGreatDoorPy
set_option linter.unusedVariables false
set_option linter.unusedSimpArgs false
namespace Go.Proofs.YtgkjlpielikecaaGreatDoor
open Go

/-! ### Cutting, splitting at a byte -/
def cutC (c : UInt8) (l : List UInt8) : List UInt8 × List UInt8 × Bool := if c ∈ l then (l.takeWhile (· ≠ c), (l.dropWhile (· ≠ c)).tail, true) else (l, [], false)
theorem cutC_app {c : UInt8} {a b : List UInt8} (h : c ∉ a) : cutC c (a ++ c :: b) = (a, b, true) := by
  obtain ⟨e1, e2⟩ := takeWhile_app (p := fun x => decide (x ≠ c)) (a := a) (t := c :: b) (List.all_eq_true.2 fun x hx => by simp; rintro rfl; exact h hx) (fun d r e => by cases e; simp)
  unfold cutC
  rw [if_pos (by simp), e1, e2]; rfl
theorem cutC_inv {c : UInt8} {l : List UInt8} (h : (cutC c l).2.2 = true) : l = (cutC c l).1 ++ c :: (cutC c l).2.1 ∧ c ∉ (cutC c l).1 := by
  unfold cutC at h ⊢
  split at h
  · rename_i hc
    rw [if_pos hc]
    simp only
    have h1 : l.takeWhile (· ≠ c) ++ l.dropWhile (· ≠ c) = l := List.takeWhile_append_dropWhile
    have h2 : c ∉ l.takeWhile (· ≠ c) := fun hm => by
      have := List.all_eq_true.1 (takeWhile_all (p := fun x => decide (x ≠ c)) l) c hm
      simp at this
    refine ⟨?_, h2⟩
    match hd : l.dropWhile (· ≠ c) with
    | [] => rw [hd, List.append_nil] at h1; rw [h1] at h2; exact absurd hc h2
    | d :: r =>
      have := dropWhile_head (p := fun x => decide (x ≠ c)) l d r hd
      simp at this
      subst this
      rw [List.tail_cons, ← hd, h1]
  · simp at h
def splitC (c : UInt8) : List UInt8 → List (List UInt8)
  | [] => [[]]
  | x :: t => if x = c then [] :: splitC c t else match splitC c t with | h :: r => (x :: h) :: r | [] => [[x]]
theorem splitC_ne (c : UInt8) (l : List UInt8) : splitC c l ≠ [] := by
  cases l with
  | nil => simp [splitC]
  | cons x t => rw [splitC]; split <;> simp; split <;> simp
theorem rowT_splitC (c : UInt8) : ∀ l, rowT c (splitC c l) = c :: l
  | [] => by simp [splitC, rowT]
  | x :: t => by
    have ih := rowT_splitC c t
    rw [splitC]
    split
    · rename_i hx
      rw [rowT_cons, ih, List.nil_append, hx]
    · match hs : splitC c t with
      | [] => exact absurd hs (splitC_ne c t)
      | h :: r =>
        rw [hs, rowT_cons] at ih
        simp only [List.cons.injEq, true_and] at ih
        simp only
        rw [rowT_cons, List.cons_append, ih]
theorem splitC_row {c : UInt8} : ∀ (n : List UInt8) (ns : List (List UInt8)), c ∉ n → (∀ m ∈ ns, c ∉ m) → splitC c (n ++ rowT c ns) = n :: ns
  | [], [], _, _ => by simp [rowT, splitC]
  | [], m :: ns, _, h => by
    rw [rowT_cons, List.nil_append, splitC, if_pos rfl, splitC_row m ns (h m (List.mem_cons_self ..)) (fun k hk => h k (List.mem_cons_of_mem _ hk))]
  | x :: n, ns, hn, h => by
    have ih := splitC_row n ns (fun hm => hn (List.mem_cons_of_mem _ hm)) h
    rw [List.cons_append, splitC, if_neg (fun e => hn (by rw [e]; exact List.mem_cons_self ..)), ih]
theorem splitC_no (c : UInt8) : ∀ l, ∀ n ∈ splitC c l, c ∉ n
  | [], n, hn => by simp [splitC] at hn; simp [hn]
  | x :: t, n, hn => by
    have ih := splitC_no c t
    rw [splitC] at hn
    split at hn
    · rcases List.mem_cons.1 hn with rfl | h
      · simp
      · exact ih n h
    · rename_i hx
      match hs : splitC c t with
      | [] => exact absurd hs (splitC_ne c t)
      | h :: r =>
        rw [hs] at hn ih
        simp only at hn
        rcases List.mem_cons.1 hn with rfl | h'
        · intro hc
          rcases List.mem_cons.1 hc with e | h2
          · exact hx e.symm
          · exact ih h (List.mem_cons_self ..) h2
        · exact ih n (List.mem_cons_of_mem _ h')

/-! ### The program's way to read a pod -/
instance (l : List UInt8) : Decidable (isNum l) := inferInstanceAs (Decidable (_ ∧ _ ∧ _))
def numP (most : Nat) (l : List UInt8) : Bool := decide (isNum l) && (decide (l.length ≤ 15) && decide (val l ≤ most))
theorem num_len {l : List UInt8} (h : isNum l) : 10 ^ (l.length - 1) ≤ val l ∨ l.length = 1 := by
  obtain ⟨h1, h2, h3⟩ := h
  match l, h1 with
  | c :: t, _ =>
    by_cases hc : c = 48
    · right; exact h3 (by rw [hc]; rfl)
    · left
      rw [val_cons]
      simp only [List.all_cons, Bool.and_eq_true] at h2
      have hd := dig_iff.1 h2.1
      have hn : c.toNat ≠ 48 := fun e => hc (UInt8.toNat_inj.1 e)
      have := Nat.mul_le_mul_right (10 ^ t.length) (show 1 ≤ c.toNat - 48 by omega)
      simp only [List.length_cons, Nat.add_sub_cancel]
      omega
theorem numP_iff {most : Nat} (hm : most ≤ 999999999999999) {l : List UInt8} : numP most l = true ↔ isNum l ∧ val l ≤ most := by
  unfold numP
  simp only [Bool.and_eq_true, decide_eq_true_eq]
  refine ⟨fun h => ⟨h.1, h.2.2⟩, fun h => ⟨h.1, ?_, h.2⟩⟩
  rcases num_len h.1 with h1 | h1
  · rcases Nat.lt_or_ge 15 l.length with h2 | h2
    · have h3 : 10 ^ 15 ≤ 10 ^ (l.length - 1) := Nat.pow_le_pow_right (by decide) (by omega)
      have : (10 : Nat) ^ 15 = 1000000000000000 := by decide
      omega
    · exact h2
  · omega
theorem numP_dec {most n : Nat} (hm : most ≤ 999999999999999) (h : n ≤ most) : numP most (Lib.decDigits n) = true := (numP_iff hm).2 ⟨dec_num n, by rw [val_dec]; exact h⟩
def setP (sign stop : UInt8) (l : List UInt8) : List (List UInt8) × List UInt8 × Bool :=
  let s := l.takeWhile (· ≠ stop)
  let ls := if s = [] then [] else (splitC sign s).tail
  (ls, l.dropWhile (· ≠ stop), (decide (s = []) || decide (s.head? = some sign)) && setB ls)
def stopP (c : UInt8) : Bool := decide (c ≠ 43) && decide (c ≠ 126)
def strip (s : List UInt8) : List UInt8 := if decide (s.getLast? = some 33) = true then s.dropLast else s
def podP (s : List UInt8) : Option PodL :=
  let f := decide (s.getLast? = some 33)
  let a := cutC 64 (strip s)
  let b := cutC 58 a.2.1
  let v := cutC 44 (b.2.1.takeWhile stopP)
  let x := setP 43 126 (b.2.1.dropWhile stopP)
  let y := setP 126 33 x.2.1
  if (((((((a.2.2 && b.2.2) && numP 999999 b.1) && (v.2.2 && (numP 1099511627776 v.1 && numP 1099511627776 v.2.1))) && x.2.2) && y.2.2) && decide (y.2.1 = [])) && nameB a.1) = true then some ⟨a.1, val b.1, val v.1, val v.2.1, x.1, y.1, f⟩ else none
def PodL.good (p : PodL) : Prop := nameB p.name = true ∧ p.shard ≤ 999999 ∧ p.cpu ≤ 1099511627776 ∧ p.mem ≤ 1099511627776 ∧ setB p.picks = true ∧ setB p.bears = true
theorem PodL.good.fine {p : PodL} (h : p.good) : p.fine := ⟨nameB_word h.1, h.2.1, h.2.2.1, h.2.2.2.1, setB_words h.2.2.2.2.1, setB_words h.2.2.2.2.2⟩
theorem word_not {n : List UInt8} (h : isWord n) {c : UInt8} (hc : parting c = true) : c ∉ n := fun hm => by
  have := List.all_eq_true.1 h.2 c hm
  simp [hc] at this
theorem dec_not (n : Nat) {c : UInt8} (hc : dig c = false) : c ∉ Lib.decDigits n := fun hm => by
  have := List.all_eq_true.1 (decDigits_all n) c hm
  rw [hc] at this; cases this
theorem setP_T {sign stop : UInt8} (hs : parting sign = true) (ht : parting stop = true) (hne : sign ≠ stop) {ls : List (List UInt8)} (h : setB ls = true) {t : List UInt8} (htt : ∀ c r, t = c :: r → c = stop) : setP sign stop (rowT sign ls ++ t) = (ls, t, true) := by
  have hw := setB_words h
  have hall : (rowT sign ls).all (fun x => decide (x ≠ stop)) = true := by
    rw [List.all_eq_true]
    intro x hx
    simp only [rowT, List.mem_flatMap, List.mem_cons] at hx
    obtain ⟨n, hn, rfl | hx⟩ := hx
    · simpa using hne
    · have := word_not (hw n hn) ht
      simp; rintro rfl; exact this hx
  obtain ⟨e1, e2⟩ := takeWhile_app (p := fun x => decide (x ≠ stop)) hall (t := t) (fun c r e => by simp [htt c r e])
  unfold setP
  rw [e1, e2]
  cases ls with
  | nil => simp [rowT_nil, h]
  | cons n ns =>
    have hsp : splitC sign (rowT sign (n :: ns)) = [] :: n :: ns := by
      have := splitC_row (c := sign) [] (n :: ns) (by simp) (fun m hm => word_not (hw m hm) hs)
      simpa using this
    have hne : rowT sign (n :: ns) ≠ [] := by rw [rowT_cons]; simp
    simp only [hne, if_false, hsp, List.tail_cons, h, Bool.and_true]
    rw [rowT_cons]; simp
theorem setP_inv {sign stop : UInt8} {l : List UInt8} (h : (setP sign stop l).2.2 = true) : l = rowT sign (setP sign stop l).1 ++ (setP sign stop l).2.1 ∧ setB (setP sign stop l).1 = true := by
  unfold setP at h ⊢
  simp only [Bool.and_eq_true, Bool.or_eq_true, decide_eq_true_eq] at h ⊢
  refine ⟨?_, h.2⟩
  have e0 : l.takeWhile (fun x => decide (x ≠ stop)) ++ l.dropWhile (fun x => decide (x ≠ stop)) = l := List.takeWhile_append_dropWhile
  have hr : rowT sign (if l.takeWhile (fun x => decide (x ≠ stop)) = [] then [] else (splitC sign (l.takeWhile fun x => decide (x ≠ stop))).tail) = l.takeWhile fun x => decide (x ≠ stop) := by
    rcases h.1 with h1 | h1
    · rw [if_pos h1, h1]; rfl
    · match hs : l.takeWhile (fun x => decide (x ≠ stop)) with
      | [] => rw [hs] at h1; simp at h1
      | c :: s =>
        rw [hs] at h1
        simp at h1
        subst h1
        rw [if_neg (by simp), splitC, if_pos rfl, List.tail_cons, rowT_splitC]
  rw [hr, e0]
theorem row_all {c : UInt8} {p : UInt8 → Prop} (hc : p c) {ls : List (List UInt8)} (h : ∀ n ∈ ls, ∀ x ∈ n, p x) : ∀ x ∈ rowT c ls, p x := by
  intro x hx
  simp only [rowT, List.mem_flatMap, List.mem_cons] at hx
  obtain ⟨n, hn, rfl | hx⟩ := hx
  · exact hc
  · exact h n hn x hx
theorem podP_T {p : PodL} (h : p.good) : podP (podT p) = some p := by
  have hf := h.fine
  obtain ⟨h1, h2, h3, h4, h5, h6⟩ := h
  obtain ⟨w1, _, _, _, w5, w6⟩ := hf
  -- what stands ahead of the last sign
  have hbody : podT p = (p.name ++ 64 :: (Lib.decDigits p.shard ++ 58 :: (vecT p.cpu p.mem ++ (rowT 43 p.picks ++ rowT 126 p.bears)))) ++ flagT p.alone := by simp [podT, tailT]
  have hno : (33 : UInt8) ∉ p.name ++ 64 :: (Lib.decDigits p.shard ++ 58 :: (vecT p.cpu p.mem ++ (rowT 43 p.picks ++ rowT 126 p.bears))) := by
    have a1 := word_not w1 (c := 33) (by decide)
    have a2 := dec_not p.shard (c := 33) (by decide)
    have a3 := dec_not p.cpu (c := 33) (by decide)
    have a4 := dec_not p.mem (c := 33) (by decide)
    have a5 : (33 : UInt8) ∉ rowT 43 p.picks := fun hm => row_all (p := fun x => x ≠ 33) (c := 43) (by decide) (fun n hn x hx e => word_not (w5 n hn) (c := 33) (by decide) (e ▸ hx)) 33 hm rfl
    have a6 : (33 : UInt8) ∉ rowT 126 p.bears := fun hm => row_all (p := fun x => x ≠ 33) (c := 126) (by decide) (fun n hn x hx e => word_not (w6 n hn) (c := 33) (by decide) (e ▸ hx)) 33 hm rfl
    simp [vecT, a1, a2, a3, a4, a5, a6]
  generalize hB : p.name ++ 64 :: (Lib.decDigits p.shard ++ 58 :: (vecT p.cpu p.mem ++ (rowT 43 p.picks ++ rowT 126 p.bears))) = B at hbody hno
  have hlast : decide ((podT p).getLast? = some 33) = p.alone := by
    rw [hbody]
    cases p.alone with
    | true => simp [flagT]
    | false =>
      simp only [flagT, Bool.false_eq_true, if_false, List.append_nil, decide_eq_false_iff_not]
      intro e
      exact hno (List.mem_of_getLast? e)
  have hcut : (if decide ((podT p).getLast? = some 33) = true then (podT p).dropLast else podT p) = B := by
    rw [hlast, hbody]
    cases p.alone <;> simp [flagT]
  have ev : ((vecT p.cpu p.mem ++ (rowT 43 p.picks ++ rowT 126 p.bears)).takeWhile stopP, (vecT p.cpu p.mem ++ (rowT 43 p.picks ++ rowT 126 p.bears)).dropWhile stopP) = (vecT p.cpu p.mem, rowT 43 p.picks ++ rowT 126 p.bears) := by
    have hd : ∀ n : Nat, ∀ x ∈ Lib.decDigits n, stopP x = true := fun n x hx => by
      simp only [stopP, Bool.and_eq_true, decide_eq_true_eq]
      exact ⟨fun e => dec_not n (c := 43) (by decide) (e ▸ hx), fun e => dec_not n (c := 126) (by decide) (e ▸ hx)⟩
    obtain ⟨e1, e2⟩ := takeWhile_app (p := stopP) (a := vecT p.cpu p.mem) (t := rowT 43 p.picks ++ rowT 126 p.bears) (by
      rw [List.all_eq_true]
      intro x hx
      simp only [vecT, List.mem_append, List.mem_cons] at hx
      rcases hx with hx | rfl | hx
      · exact hd _ x hx
      · decide
      · exact hd _ x hx) (fun c r e => by
        cases hp : p.picks with
        | cons a b => rw [hp, rowT_cons] at e; cases e; decide
        | nil =>
          rw [hp, rowT_nil, List.nil_append] at e
          cases hq : p.bears with
          | cons a b => rw [hq, rowT_cons] at e; cases e; decide
          | nil => rw [hq] at e; cases e)
    rw [e1, e2]
  simp only [Prod.mk.injEq] at ev
  have es1 : setP 43 126 (rowT 43 p.picks ++ rowT 126 p.bears) = (p.picks, rowT 126 p.bears, true) := setP_T (by decide) (by decide) (by decide) h5 (fun c r e => by
    cases hq : p.bears with
    | cons a b => rw [hq, rowT_cons] at e; cases e; rfl
    | nil => rw [hq] at e; cases e)
  have es2 : setP 126 33 (rowT 126 p.bears) = (p.bears, [], true) := by
    have := setP_T (sign := 126) (stop := 33) (by decide) (by decide) (by decide) h6 (t := []) (fun c r e => by cases e)
    rwa [List.append_nil] at this
  unfold podP
  simp only [show strip (podT p) = B from hcut]
  rw [← hB, cutC_app (word_not w1 (by decide))]
  simp only
  rw [cutC_app (dec_not _ (by decide)), hlast]
  simp only [ev.1, ev.2, es1, es2]
  rw [show vecT p.cpu p.mem = Lib.decDigits p.cpu ++ 44 :: Lib.decDigits p.mem from rfl, cutC_app (dec_not _ (by decide))]
  simp only [numP_dec (by decide) h2, numP_dec (by decide) h3, numP_dec (by decide) h4, h1, Bool.and_self, decide_true, if_true, val_dec]
theorem podP_inv {s : List UInt8} {p : PodL} (h : podP s = some p) : s = podT p ∧ p.good := by
  unfold podP at h
  simp only at h
  split at h
  · rename_i hc
    simp only [Bool.and_eq_true, decide_eq_true_eq] at hc
    obtain ⟨⟨⟨⟨⟨⟨⟨c1, c2⟩, c3⟩, c4, c5, c6⟩, c7⟩, c8⟩, c9⟩, c10⟩ := hc
    generalize hs : strip s = s1 at *
    unfold strip at hs
    generalize hf : decide (s.getLast? = some 33) = f at *
    obtain ⟨ea, na⟩ := cutC_inv c1
    obtain ⟨eb, nb⟩ := cutC_inv c2
    generalize cutC 64 s1 = a at *
    generalize cutC 58 a.2.1 = b at *
    obtain ⟨ev, nv⟩ := cutC_inv c4
    have ew : b.2.1.takeWhile stopP ++ b.2.1.dropWhile stopP = b.2.1 := List.takeWhile_append_dropWhile
    generalize b.2.1.takeWhile stopP = v0 at *
    generalize b.2.1.dropWhile stopP = r0 at *
    generalize cutC 44 v0 = v at *
    obtain ⟨ex, gx⟩ := setP_inv c7
    generalize setP 43 126 r0 = x at *
    obtain ⟨ey, gy⟩ := setP_inv c8
    generalize setP 126 33 x.2.1 = y at *
    obtain ⟨i1, l1⟩ := (numP_iff (by decide)).1 c3
    obtain ⟨i2, l2⟩ := (numP_iff (by decide)).1 c5
    obtain ⟨i3, l3⟩ := (numP_iff (by decide)).1 c6
    simp only [Option.some.injEq] at h
    subst h
    refine ⟨?_, c10, l1, l2, l3, gx, gy⟩
    have e1 : s1 = a.1 ++ 64 :: (Lib.decDigits (val b.1) ++ 58 :: (vecT (val v.1) (val v.2.1) ++ (rowT 43 x.1 ++ rowT 126 y.1))) := by
      rw [c9, List.append_nil] at ey
      rw [vecT, num_dec i1, num_dec i2, num_dec i3, ← ey, ← ex, ← ev, ew, ← eb, ← ea]
    have e2 : s = s1 ++ flagT f := by
      cases f with
      | true =>
        simp only [if_true] at hs
        simp only [decide_eq_true_eq] at hf
        rw [← hs]
        obtain ⟨ys, hys⟩ := List.getLast?_eq_some_iff.1 hf
        rw [hys]
        simp [flagT]
      | false => simp only [Bool.false_eq_true, if_false] at hs; simp [flagT, hs]
    rw [e2, e1]
    simp [podT, tailT]
  · cases h
/-- A word that is a pod, by the document. -/
def podW (s : List UInt8) : Option PodL := (pPod s).bind fun p => if (nameB p.name && (setB p.picks && setB p.bears)) = true then some p else none
theorem podW_T {p : PodL} (h : p.good) : podW (podT p) = some p := by
  unfold podW
  rw [pPod_T h.fine]
  simp only [Option.bind_some, h.1, h.2.2.2.2.1, h.2.2.2.2.2, Bool.and_self, if_true]
theorem podW_inv {s : List UInt8} {p : PodL} (h : podW s = some p) : s = podT p ∧ p.good := by
  unfold podW at h
  rw [Option.bind_eq_some_iff] at h
  obtain ⟨q, h1, h⟩ := h
  split at h
  · rename_i hc
    simp only [Option.some.injEq] at h
    subst h
    simp only [Bool.and_eq_true] at hc
    obtain ⟨e, f1, f2, f3, f4, _⟩ := pPod_inv h1
    exact ⟨e, hc.1, f2, f3, f4, hc.2.1, hc.2.2⟩
  · cases h
theorem podP_W (s : List UInt8) : podP s = podW s := by
  cases h : podP s with
  | some p =>
    obtain ⟨rfl, g⟩ := podP_inv h
    exact (podW_T g).symm
  | none =>
    cases k : podW s with
    | none => rfl
    | some p =>
      obtain ⟨e, g⟩ := podW_inv k
      rw [e, podP_T g] at h
      exact absurd h (by simp)
end Go.Proofs.YtgkjlpielikecaaGreatDoor
