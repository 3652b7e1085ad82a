/- A part of an event that is a number: 'a', 'b'. -/
import Derived.Test.YtgkjlpielikecaaGreatDoorTc
set_option linter.unusedVariables false
set_option linter.unusedSimpArgs false
namespace Go.Proofs.YtgkjlpielikecaaGreatDoor
open Go.RowKit

def LoB (N : Nat) (a b : World) : Prop := N ≤ a.heap.size → Below N a b
theorem LoB.refl (N : Nat) (w : World) : LoB N w w := fun _ => Below.refl _ _
theorem LoB.trans {N : Nat} {a b c : World} (h : LoB N a b) (k : LoB N b c) : LoB N a c := fun hN => (h hN).trans (k (Nat.le_trans hN (h hN).size))
theorem LoB.of_eq {N : Nat} {a b : World} (h : b = a) : LoB N a b := by rw [h]; exact LoB.refl N a
theorem keep_b {N : Nat} {x y : Value} {a b : World} (h : Ins a N x y false true ∨ Ins a N x y true true) (k : InsA N x y a b) : Ins b N x y false true ∨ Ins b N x y true true := by
  rcases k.2.2 with ⟨k1, k2⟩ | ⟨k1, k2⟩
  · rcases h with h | h
    · exact absurd (ins_one h k1).2 (by decide)
    · exact absurd (ins_one h k1).2 (by decide)
  · exact .inr k2
theorem keep_a {N : Nat} {x y : Value} {a b : World} (h : Ins a N x y true false ∨ Ins a N x y true true) (k : InsB N x y a b) : Ins b N x y true false ∨ Ins b N x y true true := by
  rcases k.2.2 with ⟨k1, k2⟩ | ⟨k1, k2⟩
  · rcases h with h | h
    · exact absurd (ins_one h k1).1 (by decide)
    · exact absurd (ins_one h k1).1 (by decide)
  · exact .inr k2
theorem free_a {N : Nat} {x y : Value} {a b : World} (h : Ins a N x y false false ∨ Ins a N x y false true) (k : InsB N x y a b) : Ins b N x y false false ∨ Ins b N x y false true := by
  rcases k.2.2 with ⟨k1, k2⟩ | ⟨k1, k2⟩
  · exact .inr k2
  · rcases h with h | h
    · exact absurd (ins_one h k1).1 (by decide)
    · exact absurd (ins_one h k1).1 (by decide)
theorem free_b {N : Nat} {x y : Value} {a b : World} (h : Ins a N x y false false ∨ Ins a N x y true false) (k : InsA N x y a b) : Ins b N x y false false ∨ Ins b N x y true false := by
  rcases k.2.2 with ⟨k1, k2⟩ | ⟨k1, k2⟩
  · exact .inr k2
  · rcases h with h | h
    · exact absurd (ins_one h k1).2 (by decide)
    · exact absurd (ins_one h k1).2 (by decide)
theorem ins_both {N : Nat} {x y : Value} {a : World} (h : Ins a N x y true false ∨ Ins a N x y true true) (k : Ins a N x y false true ∨ Ins a N x y true true) : Ins a N x y true true := by
  rcases h with h | h
  · rcases k with k | k
    · exact absurd (ins_one h k).1 (by decide)
    · exact k
  · exact h
theorem insA_no {N : Nat} {x y : Value} {a b : World} (h : InsA N x y a b) : N < a.heap.size := by rcases h.2.2 with h | h <;> exact ins_lt h.1
theorem insB_no {N : Nat} {x y : Value} {a b : World} (h : InsB N x y a b) : N < a.heap.size := by rcases h.2.2 with h | h <;> exact ins_lt h.1

theorem InsA.lo {N : Nat} {x y : Value} {a b : World} (h : InsA N x y a b) : LoB N a b := fun _ => h.1
theorem InsB.lo {N : Nat} {x y : Value} {a b : World} (h : InsB N x y a b) : LoB N a b := fun _ => h.1

/-- A number, or none, of the next word, or of nothing. -/
theorem tnum_any (w : World) (t g j : Nat) (ls : List (List UInt8)) (no : Bool) (h : Tak w t g ls j no) (hf : few ls) :
    Calls Tryz.prog 63 #[.pointer (some ⟨t, 0, none⟩)] w fun e w' => e = .returned (.int .i64 (numV (ls.getD j []))) ∧ Tak w' t g ls (min (j + 1) ls.length) (no || !numP 999999 (ls.getD j [])) ∧ Gb t w w' := by
  by_cases hj : j < ls.length
  · refine (tnum_some w t g j ls no h hj hf).mono ?_
    rintro e w' ⟨h1, h2, h3⟩
    rw [show ls.getD j [] = ls[j] by simp [List.getD_eq_getElem?_getD, hj], show min (j + 1) ls.length = j + 1 by omega]
    exact ⟨h1, h2, h3⟩
  · have hjl : j = ls.length := by have := h.2.2; omega
    subst hjl
    have e1 : ls.getD ls.length [] = [] := by simp [List.getD_eq_getElem?_getD]
    rw [e1, show min (ls.length + 1) ls.length = ls.length by omega, show numP 999999 [] = false by decide]
    have H := Lib.hid h
    clear h e1
    go_enter Tryz.func63, Tryz.ntmps63
    go_wp2_with fail
    refine (take_none w t g ls no H.out).mono ?_
    rintro e w1 ⟨rfl, h1, g1⟩
    go_wp2_with fail
    refine (pnumber_any [] 999999 w1 (by decide) (by decide)).mono ?_
    rintro e w2 ⟨rfl, hb2⟩
    rw [show numP 999999 [] = false by decide]
    have h2 := h1.below hb2
    have G2 := Lib.hid (g1.trans (Gb.of_below hb2))
    obtain ⟨c1, f1⟩ := h2.no
    have H2 := Lib.hid h2
    clear h1 g1 hb2 h2
    go_wp2
    go_ret
    exact ⟨rfl, by simpa using H2.out.set1 true, G2.out.trans (Gb.set _ _ _ _)⟩
theorem made_ins {w a b : World} {x y : Value} (h : a = w.drew ∧ b = a.alloc (.map #[] 0)) : Ins b w.heap.size x y false false := by
  obtain ⟨rfl, rfl⟩ := h
  exact alloc_at w.drew _
theorem not_new {w a : World} (h : a = w.drew) (k : w.heap.size < a.heap.size) : False := by rw [h] at k; exact Nat.lt_irrefl _ k

set_option maxHeartbeats 4000000 in
set_option maxRecDepth 100000 in
theorem part_num (w : World) (t ev g j q : Nat) (c : Int) (hc : c = 97 ∧ q = 1 ∨ c = 98 ∧ q = 2) (ls : List (List UInt8)) (no : Bool) (h : Tak w t g ls j no) (hf : few ls) (k : Int) (hk : k ≠ 1) (cs : List Value)
    (hev : w.heap[ev]? = some (.cells (Value.int .i64 k :: cs).toArray 38 (0, 0))) (hcs : cs.length = 10) :
    Calls Tryz.prog 32 #[.pointer (some ⟨t, 0, none⟩), .int .i32 c, .pointer (some ⟨ev, 0, none⟩)] w fun e w' => e = .returned (.tuple #[]) ∧
      Tak w' t g ls (min (j + 1) ls.length) (no || !numP 999999 (ls.getD j [])) ∧ w'.heap[ev]? = some (.cells (Value.int .i64 k :: cs.set (q - 1) (.int .i64 (numV (ls.getD j [])))).toArray 38 (0, 0)) ∧ ∃ w1, Gb t w w1 ∧ Gb ev w1 w' := by
  obtain ⟨x, hx⟩ : ∃ x : Value, x = .iface 110 (.pointer (some ⟨ev, 1, none⟩)) := ⟨_, rfl⟩
  obtain ⟨y, hy⟩ : ∃ y : Value, y = .iface 110 (.pointer (some ⟨ev, 2, none⟩)) := ⟨_, rfl⟩
  obtain ⟨z, hzz, hz⟩ : ∃ z : Value, z = .iface 110 (.pointer (some ⟨ev, q, none⟩)) ∧ ∀ w6, Ins w6 w.heap.size x y true true → (Instr.lookup 111 (.map (some w.heap.size)) (.int .i32 c) false).run Tryz.prog w6 = .ok z w6 := by
    rcases hc with ⟨rfl, rfl⟩ | ⟨rfl, rfl⟩
    · exact ⟨x, hx, fun w6 h => look_a h⟩
    · exact ⟨y, hy, fun w6 h => look_b h⟩
  have HZZ := Lib.hid hzz
  have HT := Lib.hid h
  have HE := Lib.hid hev
  have HC := Lib.hid hc
  have HCS := Lib.hid hcs
  have hk1 : (k == 1) = false := beq_eq_false_iff_ne.2 hk
  clear hzz h hev hc hcs
  have hmm := @run_makeMap Tryz.prog
  have HX := Lib.hid hx
  have HY := Lib.hid hy
  have HZ := Lib.hid hz
  have HMM := Lib.hid hmm
  clear hx hy hz hmm
  go_enter Tryz.func32, Tryz.ntmps32
  go_upto_region 0 with fail
  refine' Se.wp_region_pass (fun w w' => w' = w) (LoB w.heap.size) 14 (by kernel_rfl) (by kernel_rfl) (by kernel_rfl) (by kernel_rfl) (by kernel_rfl) (by kernel_rfl)
    (fun w => LoB.refl _ _) (fun h k => LoB.trans h k) [(fun w3 => w3 = w.drew, 0), (fun w3 => w3 = w.drew ∨ Ins w3 w.heap.size x y false false ∨ Ins w3 w.heap.size x y false true, 5), (fun w3 => w3 = w.drew ∨ Ins w3 w.heap.size x y false false ∨ Ins w3 w.heap.size x y true false, 10)] [] ?_ ?_ (by simp) (fun vals => ?_)
  case refine'_2 =>
    simp only [List.forall_mem_cons]
    exact ⟨trivial, .inl trivial, .inl trivial, by simp⟩
  case refine'_3 =>
    simp only [List.forall_mem_cons]
    exact ⟨fun w1 w2 k h => by rw [k]; exact h, fun w1 w2 k h => by rw [k]; exact h, fun w1 w2 k h => by rw [k]; exact h, by simp⟩
  rotate_left
  simp only [List.take_succ_cons, List.take_zero, List.drop_succ_cons, List.drop_zero]
  (apply Se.pas_s (fun a b => a = w.drew ∧ b = a.alloc (.map #[] 0)) (fun v b => v = .map (some w.heap.size) ∧ w.heap.size < b.heap.size) (fun a b h => by rw [h.2]; exact fun hN => below_alloc' (Below.refl _ _) _ |>.mono hN) rfl (fun v w1 w2 h k => by rw [k]; exact h); (focus rfl); (focus (intro w6 hR hD hP K hK; replace hK := Lib.hid hK; have hp : w6 = w.drew := hP _ (List.mem_cons_self ..) (.inl rfl); replace hp := Lib.hid hp; have hmm := HMM.out; clear hR hD hP; go_simp; exact hK.out _ _ ⟨hp.out, rfl⟩ ⟨by rw [hp.out]; rfl, by rw [World.size_alloc, hp.out]; exact Nat.lt_succ_self _⟩)); simp only [Act.put, List.setIfInBounds_toArray, List.set_cons_zero, List.set_cons_succ, Nat.reduceAdd, List.cons_append, List.nil_append])
  (apply Se.pas_x (fun _ _ h => LoB.of_eq h) rfl; (focus rfl); (focus (intro w6 hR hD hP K hK; replace hK := Lib.hid hK; clear hR hD hP; go_simp; exact hK.out _ rfl)); simp only [Act.put, List.setIfInBounds_toArray, List.set_cons_zero, List.set_cons_succ, Nat.reduceAdd, List.cons_append, List.nil_append])
  (apply Se.pas_x (fun _ _ h => LoB.of_eq h) rfl; (focus rfl); (focus (intro w6 hR hD hP K hK; replace hK := Lib.hid hK; clear hR hD hP; go_simp; exact hK.out _ rfl)); simp only [Act.put, List.setIfInBounds_toArray, List.set_cons_zero, List.set_cons_succ, Nat.reduceAdd, List.cons_append, List.nil_append])
  (apply Se.pas_x (fun _ _ h => LoB.of_eq h) rfl; (focus rfl); (focus (intro w6 hR hD hP K hK; replace hK := Lib.hid hK; clear hR hD hP; go_simp; exact hK.out _ rfl)); simp only [Act.put, List.setIfInBounds_toArray, List.set_cons_zero, List.set_cons_succ, Nat.reduceAdd, List.cons_append, List.nil_append])
  (apply Se.pas_r (fun v _ => v = x) (fun _ _ h => LoB.of_eq h) rfl (fun v w1 w2 h k => h); (focus rfl); (focus (intro w6 hR hD hP K hK; replace hK := Lib.hid hK; clear hR hD hP; go_simp; exact hK.out _ _ rfl HX.out.symm)); simp only [Act.put, List.setIfInBounds_toArray, List.set_cons_zero, List.set_cons_succ, Nat.reduceAdd, List.cons_append, List.nil_append])
  (apply Se.pas_s (InsA w.heap.size x y) (fun _ b => Ins b w.heap.size x y true false ∨ Ins b w.heap.size x y true true) (fun a b h => InsA.lo h) rfl (fun v w1 w2 h k => by rw [k]; exact h); (focus rfl); (focus (intro w6 hR hD hP K hK; replace hK := Lib.hid hK; obtain ⟨e0, hlt⟩ : vals 0 = .map (some w.heap.size) ∧ w.heap.size < w6.heap.size := hD 0 (by kernel_rfl); have e4 : vals 4 = x := hD 4 (by kernel_rfl); have hp := hP _ (List.mem_cons_of_mem _ (List.mem_cons_self ..)) (.inl rfl); replace hp := Lib.hid ((hp : w6 = w.drew ∨ _).resolve_left (fun e => Nat.lt_irrefl _ (by rw [e] at hlt; exact hlt))); obtain ⟨w7, hrun, hS⟩ := ins_a hp.out; clear hR hD hP; simp only [e0, e4] at hK ⊢; go_simp; exact hK.out undef _ hS (by rcases hS.2.2 with h | h; exact .inl h.2; exact .inr h.2))); simp only [Act.put, List.setIfInBounds_toArray, List.set_cons_zero, List.set_cons_succ, Nat.reduceAdd, List.cons_append, List.nil_append])
  (apply Se.pas_x (fun _ _ h => LoB.of_eq h) rfl; (focus rfl); (focus (intro w6 hR hD hP K hK; replace hK := Lib.hid hK; clear hR hD hP; go_simp; exact hK.out _ rfl)); simp only [Act.put, List.setIfInBounds_toArray, List.set_cons_zero, List.set_cons_succ, Nat.reduceAdd, List.cons_append, List.nil_append])
  (apply Se.pas_x (fun _ _ h => LoB.of_eq h) rfl; (focus rfl); (focus (intro w6 hR hD hP K hK; replace hK := Lib.hid hK; clear hR hD hP; go_simp; exact hK.out _ rfl)); simp only [Act.put, List.setIfInBounds_toArray, List.set_cons_zero, List.set_cons_succ, Nat.reduceAdd, List.cons_append, List.nil_append])
  (apply Se.pas_x (fun _ _ h => LoB.of_eq h) rfl; (focus rfl); (focus (intro w6 hR hD hP K hK; replace hK := Lib.hid hK; clear hR hD hP; go_simp; exact hK.out _ rfl)); simp only [Act.put, List.setIfInBounds_toArray, List.set_cons_zero, List.set_cons_succ, Nat.reduceAdd, List.cons_append, List.nil_append])
  (apply Se.pas_r (fun v _ => v = y) (fun _ _ h => LoB.of_eq h) rfl (fun v w1 w2 h k => h); (focus rfl); (focus (intro w6 hR hD hP K hK; replace hK := Lib.hid hK; clear hR hD hP; go_simp; exact hK.out _ _ rfl HY.out.symm)); simp only [Act.put, List.setIfInBounds_toArray, List.set_cons_zero, List.set_cons_succ, Nat.reduceAdd, List.cons_append, List.nil_append])
  (apply Se.pas_s (InsB w.heap.size x y) (fun _ b => Ins b w.heap.size x y false true ∨ Ins b w.heap.size x y true true) (fun a b h => InsB.lo h) rfl (fun v w1 w2 h k => by rw [k]; exact h); (focus rfl); (focus (intro w6 hR hD hP K hK; replace hK := Lib.hid hK; obtain ⟨e0, hlt⟩ : vals 0 = .map (some w.heap.size) ∧ w.heap.size < w6.heap.size := hD 0 (by kernel_rfl); have e4 : vals 9 = y := hD 9 (by kernel_rfl); have hp := hP _ (List.mem_cons_of_mem _ (List.mem_cons_of_mem _ (List.mem_cons_self ..))) (.inl rfl); replace hp := Lib.hid ((hp : w6 = w.drew ∨ _).resolve_left (fun e => Nat.lt_irrefl _ (by rw [e] at hlt; exact hlt))); obtain ⟨w7, hrun, hS⟩ := ins_b hp.out; clear hR hD hP; simp only [e0, e4] at hK ⊢; go_simp; exact hK.out undef _ hS (by rcases hS.2.2 with h | h; exact .inl h.2; exact .inr h.2))); simp only [Act.put, List.setIfInBounds_toArray, List.set_cons_zero, List.set_cons_succ, Nat.reduceAdd, List.cons_append, List.nil_append])
  (apply Se.pas_r (fun v _ => v = .map (some w.heap.size)) (fun _ _ h => LoB.of_eq h) rfl (fun v w1 w2 h k => h); (focus rfl); (focus (intro w6 hR hD hP K hK; replace hK := Lib.hid hK; obtain ⟨e0, hlt⟩ : vals 0 = .map (some w.heap.size) ∧ w.heap.size < w6.heap.size := hD 0 (by kernel_rfl); simp only [e0] at hK ⊢; clear hR hD hP e0; go_simp; exact hK.out _ _ rfl rfl)); simp only [Act.put, List.setIfInBounds_toArray, List.set_cons_zero, List.set_cons_succ, Nat.reduceAdd, List.cons_append, List.nil_append])
  (apply Se.pas_x (fun _ _ h => LoB.of_eq h) rfl; (focus rfl); (focus (intro w6 hR hD hP K hK; replace hK := Lib.hid hK; clear hR hD hP; go_simp; exact hK.out _ rfl)); simp only [Act.put, List.setIfInBounds_toArray, List.set_cons_zero, List.set_cons_succ, Nat.reduceAdd, List.cons_append, List.nil_append])
  (apply Se.pas_x (fun _ _ h => LoB.of_eq h) rfl; (focus rfl); (focus (intro w6 hR hD hP K hK; replace hK := Lib.hid hK; have h5 : Ins w6 w.heap.size x y true false ∨ Ins w6 w.heap.size x y true true := hD 5 (by kernel_rfl); have h10 : Ins w6 w.heap.size x y false true ∨ Ins w6 w.heap.size x y true true := hD 10 (by kernel_rfl); have e11 : vals 11 = .map (some w.heap.size) := hD 11 (by kernel_rfl); have hl := HZ.out w6 (ins_both h5 h10); simp only [e11] at hK ⊢; clear hR hD hP h5 h10 e11; go_simp; exact hK.out _ rfl)); simp only [Act.put, List.setIfInBounds_toArray, List.set_cons_zero, List.set_cons_succ, Nat.reduceAdd, List.cons_append, List.nil_append])
  refine Se.pas_ends ?_ ?_ fun w6 hR hp _ => ?_
  · simp only [Se.AllK, true_and, and_true, true_or, or_true, Nat.reduceAdd]
    exact ⟨⟨.inr (.inr fun _ _ _ _ _ h => h), .inr (.inl (by kernel_rfl)), .inr (.inr fun _ _ _ _ _ h => h), .inr (.inl (by kernel_rfl)), .inr (.inr fun _ _ _ _ _ h => h)⟩,
      ⟨.inr (.inr fun v a b _ hs h => ⟨h.1, by rw [hs.2.1]; exact h.2⟩), .inr (.inr fun _ _ _ _ _ h => h), .inr (.inr fun _ _ _ _ _ h => h), .inr (.inr fun v a b _ hs h => keep_b h hs), .inr (.inr fun _ _ _ _ _ h => h)⟩,
      .inr (.inr fun v a b _ hs h => ⟨h.1, by rw [hs.2.1]; exact h.2⟩), .inr (.inr fun _ _ _ _ _ h => h), .inr (.inr fun v a b _ hs h => keep_a h hs), .inr (.inr fun _ _ _ _ _ h => h), .inr (.inr fun _ _ _ _ _ h => h)⟩
  · simp only [Se.AllK, true_and, and_true, Nat.reduceAdd]
    refine ⟨fun e he => ?_, fun e he => ?_, fun e he => ?_⟩
    all_goals
      simp only [List.mem_cons, List.not_mem_nil, or_false] at he
      rcases he with rfl | rfl | rfl
    · exact .inl rfl
    · exact .inr fun a b _ hs _ => .inr (.inl (made_ins hs))
    · exact .inr fun a b _ hs _ => .inr (.inl (made_ins hs))
    · exact .inr fun a b _ hs h => (not_new h (insA_no hs)).elim
    · exact .inl rfl
    · exact .inr fun a b _ hs h => by
        rcases h with h | h
        · exact (not_new h (insA_no hs)).elim
        · exact .inr (free_b h hs)
    · exact .inr fun a b _ hs h => (not_new h (insB_no hs)).elim
    · exact .inr fun a b _ hs h => by
        rcases h with h | h
        · exact (not_new h (insB_no hs)).elim
        · exact .inr (free_a h hs)
    · exact .inl rfl
  have hb6 : Below w.heap.size w w6 := (Below.refl w.heap.size w).drew.trans (hR (Nat.le_refl _))
  have hT6 := HT.out.below hb6
  have hE6 := block_below HE.out hb6
  have e0 := cell_of_block hE6 0 _ rfl
  have H6 := Lib.hid hT6
  have HE6 := Lib.hid hE6
  have HB6 := Lib.hid hb6
  clear hR hp hT6 hE6 hb6
  rw [HZZ.out]
  have hta : ∀ w, (Instr.typeAssert (.iface 110 (.pointer (some ⟨ev, q, none⟩))) 20 110 true).run Tryz.prog w = .ok (.tuple #[.pointer (some ⟨ev, q, none⟩), .bool true]) w := fun _ => by kernel_rfl
  go_wp2_with fail
  refine (tnum_any w6 t g j ls no H6.out hf).mono ?_
  rintro e w7 ⟨rfl, h7, g7⟩
  have hne : ev ≠ t := fun e => by
    obtain ⟨⟨c0, a0, h1, _⟩, _⟩ := H6.out
    have h2 := HE6.out
    rw [e, h1] at h2
    injection h2 with h2
    injection h2 with _ h2
    exact absurd h2 (by decide)
  have hE7 := Gb.block' g7 HE6.out hne
  have hq : 1 ≤ q ∧ q ≤ 2 := by rcases HC.out with ⟨_, rfl⟩ | ⟨_, rfl⟩ <;> omega
  obtain ⟨v0, c0⟩ : ∃ v0, w7.cell? ⟨ev, q, none⟩ = some v0 := ⟨_, cell_of_block hE7 q ((Value.int .i64 k :: cs)[q]'(by have := HCS.out; simp; omega)) (by simp)⟩
  have fr := free_of_block hE7 q
  have hG7 : Gb t w w7 := (Gb.of_below HB6.out).trans g7
  have hT8 : Tak (w7.setCell ⟨ev, q, none⟩ (.int .i64 (numV (ls.getD j [])))) t g ls (min (j + 1) ls.length) (no || !numP 999999 (ls.getD j [])) := by
    obtain ⟨⟨c1, a1, h1, h2⟩, h3, h4⟩ := h7
    refine ⟨⟨c1, a1, (Below.heap_setCell _ _ _ _ (Ne.symm hne)).trans h1, h2⟩, (Below.heap_setCell _ _ _ _ fun (e : g = ev) => ?_).trans h3, h4⟩
    unfold Blk at h3
    rw [e, hE7] at h3
    injection h3 with h3
    injection h3 with _ h3
    exact absurd h3 (by decide)
  have hE8 : (w7.setCell ⟨ev, q, none⟩ (.int .i64 (numV (ls.getD j [])))).heap[ev]? = some (.cells (Value.int .i64 k :: cs.set (q - 1) (.int .i64 (numV (ls.getD j [])))).toArray 38 (0, 0)) := by
    have := heap_setCell_same w7 ev q _ _ (.int .i64 (numV (ls.getD j []))) hE7
    rw [List.setIfInBounds_toArray] at this
    obtain ⟨q', rfl⟩ : ∃ q', q = q' + 1 := ⟨q - 1, by omega⟩
    simpa using this
  have HT8 := Lib.hid hT8
  have HE8 := Lib.hid hE8
  have HG7 := Lib.hid hG7
  clear h7 g7 hne hE7 hq hG7 hT8 hE8
  go_wp2
  refine bodyPost_ret (results_none rfl _ _ _) rfl ?_
  exact ⟨rfl, HT8.out, HE8.out, w7, HG7.out, Gb.set _ _ _ _⟩
end Go.Proofs.YtgkjlpielikecaaGreatDoor
