/- A line that is read is of a good event: plain. -/
import Derived.Test.YtoekofanmgdbmaaGreatDoorKi
set_option linter.unusedVariables false
set_option linter.unusedSimpArgs false
namespace Go.Proofs.YtoekofanmgdbmaaGreatDoor
open Go.RowKit

theorem rowT_mem {c : UInt8} {l : List UInt8} : ∀ {ls : List (List UInt8)}, l ∈ ls → l.length ≤ (rowT c ls).length
  | x :: ls, h => by
    rw [rowT_cons, List.length_cons, List.length_append]
    rcases List.mem_cons.1 h with rfl | h
    · omega
    · have := rowT_mem (c := c) h
      omega
theorem rowT_count (c : UInt8) : ∀ ls : List (List UInt8), ls.length ≤ (rowT c ls).length
  | [] => by simp
  | x :: ls => by
    have := rowT_count c ls
    rw [rowT_cons]
    simp only [List.length_cons, List.length_append]
    omega
theorem ok_good (t : List UInt8) (h : evOk t = true) : (EvL.mk (kindS t) (evS t).a (evS t).b (evS t).id (evS t).pods (evS t).node).good := by
  have hkk := (words_back t h).2
  obtain ⟨ws, hws⟩ : ∃ ws, splitC 32 t = ws := ⟨_, rfl⟩
  unfold evOk at h
  unfold evS
  rw [hws] at h ⊢
  by_cases h1 : kindS t = 1
  · rw [if_pos h1] at h ⊢
    rw [h1]
    unfold twoOk at h
    simp only [Bool.and_eq_true] at h
    obtain ⟨⟨ha, hb⟩, -⟩ := h
    rw [ok_a] at ha
    have hl := num_in ha
    rw [partJ_a hl, ok_p] at hb
    have hp : ∀ p ∈ (ws.drop 2).map podX, p.good := fun p hp => by
      obtain ⟨x, hx, rfl⟩ := List.mem_map.1 hp
      exact (pod_back (List.all_eq_true.1 hb x hx)).2
    simp only [twoE, partJ_a hl, partE, if_true, Int.reduceEq, if_false, evS0]
    exact ⟨by simp, by simp, by simp, by simp, (num_back ha).2, hp, by simp, by simp, by simp, by simp, by simp, by simp⟩
  · by_cases h4 : kindS t = 4
    · rw [if_neg h1, if_pos h4] at h ⊢
      rw [h4]
      unfold twoOk at h
      simp only [Bool.and_eq_true, decide_eq_true_eq] at h
      obtain ⟨⟨ha, hb⟩, hc⟩ := h
      rw [ok_a] at ha
      have hl := num_in ha
      rw [partJ_a hl, ok_n] at hb
      simp only [Bool.and_eq_true, decide_eq_true_eq] at hb
      obtain ⟨hb, hl3⟩ := hb
      obtain ⟨n, hn⟩ := Option.isSome_iff_exists.1 hb
      have hg := (nodeW_inv hn).2
      simp only [twoE, partJ_a hl, partE, if_true, Int.reduceEq, if_false, Nat.reduceEqDiff, hn, Option.getD_some, evS0]
      exact ⟨by simp, by simp, (num_back ha).2, by simp, by simp, by simp, by simp, by simp, by simp, fun _ => hg, by simp, by simp⟩
    · by_cases h5 : kindS t = 5
      · rw [if_neg h1, if_neg h4, if_pos h5] at h ⊢
        rw [h5]
        unfold twoOk at h
        simp only [Bool.and_eq_true, decide_eq_true_eq] at h
        obtain ⟨⟨ha, hb⟩, hc⟩ := h
        rw [ok_a] at ha
        have hl := num_in ha
        rw [partJ_a hl, ok_m] at hb
        simp only [Bool.and_eq_true, decide_eq_true_eq] at hb
        obtain ⟨hb, hl3⟩ := hb
        simp only [twoE, partJ_a hl, partE, if_true, Int.reduceEq, if_false, Nat.reduceEqDiff, evS0, noNode]
        exact ⟨by simp, by simp, (num_back ha).2, by simp, by simp, by simp, by simp, by simp, by simp, by simp, fun _ => ⟨hb, rfl⟩, by simp⟩
      · by_cases h10 : kindS t = 10
        · rw [if_neg h1, if_neg h4, if_neg h5, if_pos h10] at h ⊢
          rw [h10]
          unfold twoOk at h
          simp only [Bool.and_eq_true, decide_eq_true_eq] at h
          obtain ⟨⟨ha, hb⟩, hc⟩ := h
          rw [ok_a] at ha
          have hl := num_in ha
          rw [partJ_a hl, ok_b] at hb
          simp only [twoE, partJ_a hl, partE, if_true, Int.reduceEq, if_false, Nat.reduceEqDiff, evS0]
          exact ⟨by simp, by simp, (num_back ha).2, (num_back hb).2, by simp, by simp, by simp, by simp, by simp, by simp, by simp, by simp⟩
        · rw [if_neg h1, if_neg h4, if_neg h5, if_neg h10] at h ⊢
          unfold oneOk at h
          simp only [Bool.and_eq_true, decide_eq_true_eq, bne_iff_ne] at h
          obtain ⟨⟨h0, ha⟩, hc⟩ := h
          exact ⟨hkk.1, hkk.2, (num_back ha).2, by simp, by simp, by simp, fun h => absurd h h1, by simp, by simp, fun h => absurd h h4, fun h => absurd h h5, by simp⟩
theorem good_B {e : EvL} (h : e.good) {m : Nat} (hm : m ≤ 1000000) (ht : (textE e.kind (evSof e)).length ≤ m) : EvB e.kind (evSof e) := by
  have hr := ht
  rw [textE_T, evT, List.length_append] at hr
  have hw : ∀ l ∈ evWords e, l.length ≤ m := fun l hl => by have := rowT_mem (c := 32) hl; omega
  have hc := rowT_count 32 (evWords e)
  obtain ⟨k, a, b, id, ps, d⟩ := e
  obtain ⟨h1, h2, h3, h4, h5, h6, h7, h8, h9, h10, h11, h12⟩ := h
  simp only at *
  have hp : ∀ p ∈ ps, (podT p).length ≤ m := fun p hp => by
    by_cases k1 : k = 1
    · refine hw _ ?_
      unfold evWords
      rw [if_pos k1]
      exact List.mem_cons_of_mem _ (List.mem_map_of_mem hp)
    · obtain ⟨-, rfl⟩ := h8 k1
      simp at hp
  have hl : ps.length ≤ m := by
    by_cases k1 : k = 1
    · have : (evWords ⟨k, a, b, id, ps, d⟩).length = ps.length + 1 := by unfold evWords; rw [if_pos k1]; simp
      omega
    · obtain ⟨-, rfl⟩ := h8 k1
      simp
  have hd : d.cpu ≤ 1099511627776 ∧ d.mem ≤ 1099511627776 ∧ (nodeT d).length ≤ m + 200 ∧ d.marks.length ≤ 4 ∧ d.taints.length ≤ 4 := by
    by_cases k4 : k = 4
    · have hg := h10 k4
      have e1 := hg.2.2.2.1
      have e2 := hg.2.2.2.2
      simp only [setB, Bool.and_eq_true, decide_eq_true_eq] at e1 e2
      have : (nodeT d).length ≤ m := by
        refine hw _ ?_
        unfold evWords
        rw [if_neg (show ¬ k = 1 by omega), if_pos k4]
        simp
      exact ⟨hg.2.1, hg.2.2.1, by omega, e1.2, e2.2⟩
    · by_cases k5 : k = 5
      · obtain ⟨g1, g2⟩ := h11 k5
        have hn : d.name.length ≤ m := by
          refine hw _ ?_
          unfold evWords
          rw [if_neg (show ¬ k = 1 by omega), if_neg k4, if_pos k5]
          simp
        obtain ⟨nm, q1, q2, q3, q4, q5⟩ := d
        injection g2 with _ g3 g4 g5 g6 g7
        subst g3 g4 g5 g6 g7
        have := vecT_len 0 0 (by omega) (by omega)
        have := flagT_len false
        refine ⟨by simp, by simp, ?_, by simp, by simp⟩
        simp [nodeT, tailT, rowT]
        simp only at hn
        omega
      · obtain rfl := h12 k4 k5
        have := noNode_few
        exact ⟨by simp [noNode], by simp [noNode], by omega, by simp [noNode], by simp [noNode]⟩
  exact ⟨h3, h4, h5, fun p hq => ⟨(h6 p hq).2.1, (h6 p hq).2.2.1, (h6 p hq).2.2.2.1, by have := hp p hq; omega⟩, show ps.length ≤ _ by omega, ⟨show d.cpu ≤ _ by omega, show d.mem ≤ _ by omega, show (nodeT d).length ≤ _ by omega, show d.marks.length ≤ _ by omega, show d.taints.length ≤ _ by omega⟩, by omega⟩
/-- What the writer wants of what the reader gave. -/
theorem ok_B {t : List UInt8} (h : evOk t = true) (ht : t.length ≤ 1000000) : EvB (kindS t) (evS t) :=
  good_B (ok_good t h) ht (by
    show (textE (kindS t) (evS t)).length ≤ t.length
    rw [(text_back t h).1]
    exact Nat.le_refl _)
end Go.Proofs.YtoekofanmgdbmaaGreatDoor
