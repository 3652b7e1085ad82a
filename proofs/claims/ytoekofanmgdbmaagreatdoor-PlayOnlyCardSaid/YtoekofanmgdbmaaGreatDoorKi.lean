/- What the law makes is written, and read as it was: plain. -/
import Derived.Test.YtoekofanmgdbmaaGreatDoorKh
set_option linter.unusedVariables false
set_option linter.unusedSimpArgs false
namespace Go.Proofs.YtoekofanmgdbmaaGreatDoor
open Go.RowKit

theorem evWords_is (e : EvL) : evWords e = Lib.decDigits (if e.kind = 1 then e.id else e.a) :: restE e.kind (evSof e) := by
  obtain ⟨k, a, b, id, ps, d⟩ := e
  unfold evWords restE evSof
  by_cases h1 : k = 1
  · simp [h1]
  · by_cases h4 : k = 4
    · simp [h4]
    · by_cases h5 : k = 5
      · simp [h5]
      · by_cases h10 : k = 10
        · simp [h10]
        · simp [h1, h4, h5, h10]
theorem textE_T (e : EvL) : textE e.kind (evSof e) = evT e := by
  rw [textE_eq, evT, evWords_is, rowT_cons]
  rfl
theorem split_T {e : EvL} (h : e.good) : splitC 32 (textE e.kind (evSof e)) = verb e.kind :: evWords e := by
  rw [textE_T]
  exact splitC_row _ _ (not32_verb h.1 h.2.1) (not32_words h)
theorem numV_dec {n : Nat} (h : n ≤ 999999) : numV (Lib.decDigits n) = n := by
  have := numP_dec (most := 999999) (by omega) h
  rw [numV_of this, val_dec]
theorem podX_T {p : PodL} (h : p.good) : podX (podT p) = p ∧ podB (podT p) = true := by
  have := podP_T h
  exact ⟨podX_of this, by rw [← podB_is, this]; rfl⟩
theorem ev_back {e : EvL} (h : e.good) : kindS (textE e.kind (evSof e)) = e.kind ∧ evOk (textE e.kind (evSof e)) = true ∧ evS (textE e.kind (evSof e)) = evSof e := by
  have hs := split_T h
  obtain ⟨t, ht⟩ : ∃ t, textE e.kind (evSof e) = t := ⟨_, rfl⟩
  rw [ht] at hs ⊢
  have hk : kindS t = e.kind := by
    unfold kindS
    rw [hs]
    exact kindOf_verb h.1 h.2.1
  refine ⟨hk, ?_⟩
  unfold evOk evS
  rw [hk, hs]
  clear ht hs hk
  obtain ⟨k, a, b, id, ps, d⟩ := e
  obtain ⟨h1, h2, h3, h4, h5, h6, h7, h8, h9, h10, h11, h12⟩ := h
  simp only at *
  unfold evSof evWords
  by_cases k1 : k = 1
  · subst k1
    have q2 : two1 (verb 1 :: Lib.decDigits id :: ps.map podT) = 2 := partJ_a (by simp)
    have qa : (ps.map podT).all podB = true := by
      rw [List.all_map, List.all_eq_true]
      exact fun p hp => (podX_T (h6 p hp)).2
    have qm : (ps.map podT).map podX = ps := by
      rw [List.map_map]
      conv => rhs; rw [← List.map_id ps]
      exact List.map_congr_left fun p hp => (podX_T (h6 p hp)).1
    obtain rfl := h7 rfl
    obtain rfl := h9 (by decide)
    obtain rfl := h12 (by decide) (by decide)
    simp only [if_true]
    refine ⟨?_, ?_⟩
    · unfold twoOk
      rw [q2, ok_a, ok_p]
      simp [numP_dec (most := 999999) (by omega) h5, qa, partJ]
    · unfold twoE
      rw [q2]
      simp [partE, numV_dec h5, qm, evS0]
  · obtain ⟨rfl, rfl⟩ := h8 k1
    simp only [if_neg k1]
    by_cases k4 : k = 4
    · subst k4
      obtain rfl := h9 (by decide)
      have q2 : two1 [verb 4, Lib.decDigits a, nodeT d] = 2 := partJ_a (by simp)
      simp only [if_true]
      refine ⟨?_, ?_⟩
      · unfold twoOk
        rw [q2, ok_a, ok_n]
        simp [numP_dec (most := 999999) (by omega) h3, nodeW_T (h10 rfl), partJ]
      · unfold twoE
        rw [q2]
        simp [partE, numV_dec h3, nodeW_T (h10 rfl), evS0]
    · simp only [if_neg k4]
      by_cases k5 : k = 5
      · subst k5
        obtain rfl := h9 (by decide)
        obtain ⟨g1, g2⟩ := h11 rfl
        have q2 : two1 [verb 5, Lib.decDigits a, d.name] = 2 := partJ_a (by simp)
        simp only [if_true]
        refine ⟨?_, ?_⟩
        · unfold twoOk
          rw [q2, ok_a, ok_m]
          simp [numP_dec (most := 999999) (by omega) h3, g1, partJ]
        · unfold twoE
          rw [q2]
          conv => rhs; rw [g2]
          simp [partE, numV_dec h3, evS0, noNode]
      · simp only [if_neg k5]
        obtain rfl := h12 k4 k5
        by_cases k10 : k = 10
        · subst k10
          have q2 : two1 [verb 10, Lib.decDigits a, Lib.decDigits b] = 2 := partJ_a (by simp)
          simp only [if_true]
          refine ⟨?_, ?_⟩
          · unfold twoOk
            rw [q2, ok_a, ok_b]
            simp [numP_dec (most := 999999) (by omega) h3, numP_dec (most := 999999) (by omega) h4, partJ]
          · unfold twoE
            rw [q2]
            simp [partE, numV_dec h3, numV_dec h4, evS0]
        · simp only [if_neg k10]
          obtain rfl := h9 k10
          refine ⟨?_, ?_⟩
          · unfold oneOk
            simp [numP_dec (most := 999999) (by omega) h3, kindOf_verb h1 h2]
            omega
          · simp [numV_dec h3]
theorem rowT_few {c : UInt8} {m : Nat} : ∀ {ls : List (List UInt8)}, (∀ l ∈ ls, l.length ≤ m) → (rowT c ls).length ≤ ls.length * (m + 1)
  | [], _ => by simp [rowT]
  | l :: ls, h => by
    rw [rowT_cons, List.length_cons, List.length_append, List.length_cons, Nat.succ_mul]
    have h1 := h l (List.mem_cons_self ..)
    have h2 := rowT_few (c := c) (m := m) fun x hx => h x (List.mem_cons_of_mem _ hx)
    omega
theorem setQ_row (c : UInt8) (n : Int) : (rowT c (setQ n 4)).length ≤ 20 := by
  have h := setQ_few n 4 (by omega)
  have := rowT_few (c := c) h.2
  omega
theorem setI_row (c : UInt8) (n : Int) (q : Prop) [Decidable q] : (rowT c (if q then setQ n 4 else [])).length ≤ 20 := by
  split
  · exact setQ_row c n
  · simp [rowT]
theorem setI_len (n : Int) (q : Prop) [Decidable q] : (if q then setQ n 4 else []).length ≤ 4 := by
  split
  · exact (setQ_few n 4 (by omega)).1
  · simp
theorem nameQ_len (n : Int) : (nameQ n).length ≤ 16 := by
  have h1 := Int.emod_nonneg n (show (8 : Int) ≠ 0 by decide)
  have h2 := Int.emod_lt_of_pos n (show (0 : Int) < 8 by decide)
  unfold nameQ
  obtain h | h | h | h | h | h | h | h : (n % 8).toNat = 0 ∨ (n % 8).toNat = 1 ∨ (n % 8).toNat = 2 ∨ (n % 8).toNat = 3 ∨ (n % 8).toNat = 4 ∨ (n % 8).toNat = 5 ∨ (n % 8).toNat = 6 ∨ (n % 8).toNat = 7 := by omega
  all_goals (rw [h]; decide +kernel)
theorem vecT_len (a b : Nat) (ha : a ≤ 9223372036854775807) (hb : b ≤ 9223372036854775807) : (vecT a b).length ≤ 43 := by
  have h1 := dec_len' a ha
  have h2 := dec_len' b hb
  simp [vecT]
  omega
theorem flagT_len (f : Bool) : (flagT f).length ≤ 1 := by cases f <;> simp [flagT]
theorem podQ_len (at' : Nat) (n s : Int) (h0 : 0 < s) (h1 : s ≤ 4) : (podT (podQ at' n s)).length ≤ 200 ∧ (podQ at' n s).shard ≤ 999999 ∧ (podQ at' n s).cpu ≤ 1099511627776 ∧ (podQ at' n s).mem ≤ 1099511627776 := by
  have a2 := Int.emod_lt_of_pos n h0
  have a1 := Int.emod_nonneg n (show s ≠ 0 by omega)
  have b1 := Int.emod_lt_of_pos (qd n 4) (show (0 : Int) < 5 by decide)
  have b2 := Int.emod_lt_of_pos (qd n 20) (show (0 : Int) < 5 by decide)
  have e1 : (podQ at' n s).shard ≤ 999999 := by show (1 + n % s).toNat ≤ _; omega
  have e2 : (podQ at' n s).cpu ≤ 1099511627776 := by show (qd n 4 % 5).toNat ≤ _; omega
  have e3 : (podQ at' n s).mem ≤ 1099511627776 := by show (qd n 20 % 5).toNat ≤ _; omega
  refine ⟨?_, e1, e2, e3⟩
  have l1 := dec_len' (podQ at' n s).shard (by omega)
  have l2 := vecT_len (podQ at' n s).cpu (podQ at' n s).mem (by omega) (by omega)
  have l3 : (rowT 43 (podQ at' n s).picks).length ≤ 20 := setI_row 43 _ _
  have l4 : (rowT 126 (podQ at' n s).bears).length ≤ 20 := setI_row 126 _ _
  have l5 := flagT_len (podQ at' n s).alone
  have l6 : (podQ at' n s).name.length = 2 := rfl
  simp [podT, tailT]
  omega
theorem nodeQ_len (name n : Int) : (nodeT (nodeQ name n)).length ≤ 200 ∧ (nodeQ name n).cpu ≤ 12 ∧ (nodeQ name n).mem ≤ 12 ∧ (nodeQ name n).marks.length ≤ 4 ∧ (nodeQ name n).taints.length ≤ 4 := by
  have b1 := Int.emod_lt_of_pos n (show (0 : Int) < 12 by decide)
  have b2 := Int.emod_lt_of_pos (qd n 12) (show (0 : Int) < 12 by decide)
  have e2 : (nodeQ name n).cpu ≤ 12 := by show (n % 12).toNat ≤ _; omega
  have e3 : (nodeQ name n).mem ≤ 12 := by show (qd n 12 % 12).toNat ≤ _; omega
  refine ⟨?_, e2, e3, (setQ_few _ 4 (by omega)).1, setI_len _ _⟩
  have l2 := vecT_len (nodeQ name n).cpu (nodeQ name n).mem (by omega) (by omega)
  have l3 : (rowT 43 (nodeQ name n).marks).length ≤ 20 := setQ_row 43 _
  have l4 : (rowT 126 (nodeQ name n).taints).length ≤ 20 := setI_row 126 _ _
  have l5 := flagT_len (nodeQ name n).closed
  have l6 : (nodeQ name n).name.length ≤ 16 := nameQ_len _
  simp [nodeT, tailT]
  omega
theorem restE_few {e : EvL} (h : e.good) (hp : ∀ p ∈ e.pods, (podT p).length ≤ 200) (hl : e.pods.length ≤ 8) (hn : (nodeT e.node).length ≤ 200) (hm : e.node.name.length ≤ 16) :
    (restE e.kind (evSof e)).length ≤ 8 ∧ ∀ l ∈ restE e.kind (evSof e), l.length ≤ 200 := by
  have hb := dec_len' e.b (by have := h.2.2.2.1; omega)
  unfold restE evSof
  dsimp only
  split
  · refine ⟨by rw [List.length_map]; exact hl, fun l hl => ?_⟩
    obtain ⟨p, h1, rfl⟩ := List.mem_map.1 hl
    exact hp p h1
  · split
    · exact ⟨by simp, fun l hl => by obtain rfl := List.mem_singleton.1 hl; exact hn⟩
    · split
      · exact ⟨by simp, fun l hl => by obtain rfl := List.mem_singleton.1 hl; omega⟩
      · split
        · exact ⟨by simp, fun l hl => by obtain rfl := List.mem_singleton.1 hl; omega⟩
        · exact ⟨by simp, fun l hl => by simp at hl⟩
theorem evB_of {e : EvL} (h : e.good) (hp : ∀ p ∈ e.pods, (podT p).length ≤ 200 ∧ p.shard ≤ 999999 ∧ p.cpu ≤ 1099511627776 ∧ p.mem ≤ 1099511627776) (hl : e.pods.length ≤ 8)
    (hn : (nodeT e.node).length ≤ 200 ∧ e.node.cpu ≤ 12 ∧ e.node.mem ≤ 12 ∧ e.node.marks.length ≤ 4 ∧ e.node.taints.length ≤ 4) (hm : e.node.name.length ≤ 16) : EvB e.kind (evSof e) ∧ (textE e.kind (evSof e)).length ≤ 4000 := by
  have hr := restE_few h (fun p h => (hp p h).1) hl hn.1 hm
  have hw := rowT_few (c := 32) hr.2
  have hv := verb_len e.kind h.1 h.2.1
  have hd := dec_len' (if e.kind = 1 then e.id else e.a) (by have := h.2.2.1; have := h.2.2.2.2.1; split <;> omega)
  have ht : (textE e.kind (evSof e)).length ≤ 4000 := by
    rw [textE_eq]
    rw [List.length_append, List.length_cons, List.length_append]
    show (verb e.kind).length + ((Lib.decDigits (if e.kind = 1 then e.id else e.a)).length + (rowT 32 (restE e.kind (evSof e))).length + 1) ≤ 4000
    omega
  refine ⟨⟨h.2.2.1, h.2.2.2.1, h.2.2.2.2.1, fun p hq => ?_, ?_, ⟨?_, ?_, ?_, ?_, ?_⟩, by omega⟩, ht⟩
  · have := hp p hq
    exact ⟨this.2.1, this.2.2.1, this.2.2.2, by omega⟩
  · show e.pods.length ≤ _; omega
  · show e.node.cpu ≤ _; omega
  · show e.node.mem ≤ _; omega
  · show (nodeT e.node).length ≤ _; omega
  · show e.node.marks.length ≤ _; omega
  · show e.node.taints.length ≤ _; omega
theorem gangQ_few (gid : Int) (ns : List Int) : (gangQ gid ns 4).length ≤ 8 ∧ ∀ p ∈ gangQ gid ns 4, (podT p).length ≤ 200 ∧ p.shard ≤ 999999 ∧ p.cpu ≤ 1099511627776 ∧ p.mem ≤ 1099511627776 := by
  unfold gangQ
  split
  · refine ⟨by simp, fun p hp => ?_⟩
    obtain rfl := List.mem_singleton.1 hp
    exact podQ_len _ _ _ (by omega) (by omega)
  · refine ⟨by rw [podsQ_len]; omega, fun p hp => ?_⟩
    obtain ⟨i, hi, rfl⟩ := List.mem_map.1 hp
    exact podQ_len _ _ _ (by omega) (by omega)
theorem noNode_few : (nodeT noNode).length ≤ 200 ∧ noNode.cpu ≤ 12 ∧ noNode.mem ≤ 12 ∧ noNode.marks.length ≤ 4 ∧ noNode.taints.length ≤ 4 := by decide +kernel
theorem nameN_few (b : Int) : (nodeT ⟨nameQ b, 0, 0, [], [], false⟩).length ≤ 200 := by
  have := nameQ_len b
  have := vecT_len 0 0 (by omega) (by omega)
  have := flagT_len false
  simp [nodeT, tailT, rowT]
  omega
theorem evQ_B (kd a b : Int) (ps : List Int) (n : Int) : EvB (evQ kd a b ps n).kind (evSof (evQ kd a b ps n)) ∧ (textE (evQ kd a b ps n).kind (evSof (evQ kd a b ps n))).length ≤ 4000 := by
  refine evB_of (evQ_good kd a b ps n) ?_ ?_ ?_ ?_
  · intro p hp
    unfold evQ at hp
    dsimp only at hp
    split at hp
    · dsimp only at hp
      split at hp
      · simp at hp
      · exact (gangQ_few a ps).2 p hp
    · split at hp
      · simp at hp
      · split at hp
        · simp at hp
        · split at hp <;> simp at hp
  · unfold evQ
    dsimp only
    split
    · dsimp only
      split
      · simp
      · exact (gangQ_few a ps).1
    · split
      · simp
      · split
        · simp
        · split <;> simp
  · unfold evQ
    dsimp only
    split
    · exact noNode_few
    · split
      · exact nodeQ_len b n
      · split
        · exact ⟨nameN_few b, by simp, by simp, by simp, by simp⟩
        · split <;> exact noNode_few
  · unfold evQ
    dsimp only
    split
    · simp [noNode]
    · split
      · exact nameQ_len b
      · split
        · exact nameQ_len b
        · split <;> simp [noNode]
end Go.Proofs.YtoekofanmgdbmaaGreatDoor
