/- One node, one gang, of chapter 10's laws. -/
import Derived.Test.YtofofjfmhaggmaaGreatDoorZe
set_option linter.unusedVariables false
set_option linter.unusedSimpArgs false
namespace Go.Proofs.YtofofjfmhaggmaaGreatDoor
open Go.RowKit

theorem emod_is (a : Int) {m : Int} (hm : 0 < m) : a % m = if a.tmod m < 0 then a.tmod m + m else a.tmod m := by
  have t1 := Int.tmod_lt_of_pos a hm
  have t2 := Int.lt_tmod_of_pos a hm
  have e1 : a % m = (a.tmod m) % m := by
    have := Int.mul_tdiv_add_tmod a m
    calc a % m = (m * a.tdiv m + a.tmod m) % m := by rw [this]
      _ = (a.tmod m) % m := by rw [Int.add_comm, Int.add_mul_emod_self_left]
  rw [e1]
  split
  · rw [← Int.add_emod_right]; exact Int.emod_eq_of_lt (by omega) (by omega)
  · exact Int.emod_eq_of_lt (by omega) (by omega)
theorem within10_any (a m : Int) (hm : 0 < m) (hb : m ≤ 4611686018427387904) (w : World) : Calls Tryz.prog 19 #[.int .i64 a, .int .i64 m] w fun e w' => e = .returned (.int .i64 (a % m)) ∧ w = w' := by
  have t1 := Int.tmod_lt_of_pos a hm
  have t2 := Int.lt_tmod_of_pos a hm
  have hz : (m == 0) = false := beq_eq_false_iff_ne.mpr (by omega)
  have em := Lib.hid (emod_is a hm)
  by_cases h : a.tmod m < 0
  · go_enter Tryz.func19, Tryz.ntmps19
    go_wp2
    go_ret
    exact ⟨ret_int (by rw [em.out, if_pos h]), rfl⟩
  · go_enter Tryz.func19, Tryz.ntmps19
    go_wp2
    go_ret
    exact ⟨ret_int (by rw [em.out, if_neg (by omega)]), rfl⟩
theorem stores7 {w : World} {b : Nat} {T : TypeId} {x0 x1 x2 x3 x4 x5 x6 : Value} (y0 y1 y2 y3 y4 y5 y6 : Value) (h : w.heap[b]? = some (.cells #[x0, x1, x2, x3, x4, x5, x6] T (0, 0))) : (((((((w.setCell ⟨b, 0, none⟩ y0).setCell ⟨b, 1, none⟩ y1).setCell ⟨b, 2, none⟩ y2).setCell ⟨b, 3, none⟩ y3).setCell ⟨b, 4, none⟩ y4).setCell ⟨b, 5, none⟩ y5).setCell ⟨b, 6, none⟩ y6).heap[b]? = some (.cells #[y0, y1, y2, y3, y4, y5, y6] T (0, 0)) ∧ Mod (fun g => g = b) w (((((((w.setCell ⟨b, 0, none⟩ y0).setCell ⟨b, 1, none⟩ y1).setCell ⟨b, 2, none⟩ y2).setCell ⟨b, 3, none⟩ y3).setCell ⟨b, 4, none⟩ y4).setCell ⟨b, 5, none⟩ y5).setCell ⟨b, 6, none⟩ y6) :=
  ⟨(setAt (j := 6) (v := y6) (setAt (j := 5) (v := y5) (setAt (j := 4) (v := y4) (setAt (j := 3) (v := y3) (setAt (j := 2) (v := y2) (setAt (j := 1) (v := y1) (setAt (j := 0) (v := y0) h (ds := #[y0, x1, x2, x3, x4, x5, x6]) rfl) (ds := #[y0, y1, x2, x3, x4, x5, x6]) rfl) (ds := #[y0, y1, y2, x3, x4, x5, x6]) rfl) (ds := #[y0, y1, y2, y3, x4, x5, x6]) rfl) (ds := #[y0, y1, y2, y3, y4, x5, x6]) rfl) (ds := #[y0, y1, y2, y3, y4, y5, x6]) rfl) (ds := #[y0, y1, y2, y3, y4, y5, y6]) rfl), (((((((Mod.refl (fun g => g = b) w).trans (Mod.set (S := fun g => g = b) (.inl rfl) y0)).trans (Mod.set (S := fun g => g = b) (.inl rfl) y1)).trans (Mod.set (S := fun g => g = b) (.inl rfl) y2)).trans (Mod.set (S := fun g => g = b) (.inl rfl) y3)).trans (Mod.set (S := fun g => g = b) (.inl rfl) y4)).trans (Mod.set (S := fun g => g = b) (.inl rfl) y5)).trans (Mod.set (S := fun g => g = b) (.inl rfl) y6)⟩
/-- A world whose shard's blocks are new. -/
structure OneAt1 (w0 w : World) (W s l a b m t : Nat) (tv : Value) (h : ShL) (x y : Nat) : Prop where
  lw : LW w W s l a b m t tv h x y 0
  new : w0.heap.size ≤ a ∧ w0.heap.size ≤ b ∧ w0.heap.size ≤ m ∧ w0.heap.size ≤ t ∧ ∀ g, tv.ownBlock = some g → w0.heap.size ≤ g
  below : Below w0.heap.size w0 w
theorem OneAt1.did {w0 w w' : World} {W s l a b m t : Nat} {tv : Value} {h h' : ShL} {x y : Nat} (H : OneAt1 w0 w W s l a b m t tv h x y) (k : ShPost (Q3 (fun g => g = t) a b m) w s l a b m t tv h' w') : ∃ tv', OneAt1 w0 w' W s l a b m t tv' h' x y ∧ Mod (fun g => g = a ∨ g = b ∨ g = m ∨ g = t ∨ tv.ownBlock = some g) w w' := by
  obtain ⟨tv', hS, hD⟩ := k
  obtain ⟨n1, n2, n3, n4, n5⟩ := H.new
  refine ⟨tv', ⟨⟨hD.mod.block' H.lw.box H.lw.apart, hS, H.lw.fine.mod hD.mod H.lw.sh.far⟩, ⟨n1, n2, n3, n4, fun g hg => ?_⟩, (Mod.then (S := fun _ => False) (Mod.of_below H.below) hD.mod fun g hg => .inr ?_).below fun g hg => hg.elim⟩, hD.mod⟩
  · rcases hD.row with r | r
    · exact n5 g (r ▸ hg)
    · exact Nat.le_trans H.below.size (r g hg)
  · rcases hg with e | e | e | e | e
    · omega
    · omega
    · omega
    · omega
    · exact n5 g e
theorem OneAt1.of_below {w0 w w' : World} {W s l a b m t : Nat} {tv : Value} {h : ShL} {x y : Nat} (H : OneAt1 w0 w W s l a b m t tv h x y) (k : Below w.heap.size w w') : OneAt1 w0 w' W s l a b m t tv h x y :=
  ⟨H.lw.below k, H.new, below_call H.below k⟩
theorem OneAt1.typed {w0 w w' : World} {W s l a b m t : Nat} {tv : Value} {h : ShL} {x y r : Nat} {T : TypeId} {cs : Array Value} (H : OneAt1 w0 w W s l a b m t tv h x y) (hr : w.heap[r]? = some (.cells cs T (0, 0))) (f : Far T) (hT : 36 ≠ T) (hn : w0.heap.size ≤ r) (hg : GN ≤ w0.heap.size) (k : Mod (fun g => g = r) w w') : OneAt1 w0 w' W s l a b m t tv h x y :=
  ⟨⟨k.block' H.lw.box fun e => by
      have := H.lw.box
      rw [e, hr] at this
      injection this with this
      injection this with _ this
      exact hT this.symm, H.lw.sh.typed f k fun g e => by subst e; exact ⟨_, hr⟩, H.lw.fine.mod k fun g e => by omega⟩, H.new, (Mod.then (S := fun _ => False) (Mod.of_below H.below) k fun g e => .inr (by omega)).below fun g hg => hg.elim⟩
/-- The pod that is asked for. -/
def PodB (w0 w : World) (b0 a b m t c : Nat) : Prop := w.heap[b0]? = some (.cells #[.string ⟨#[112]⟩, .int .i64 1, .int .i64 c, .int .i64 0, .slice none 0 0, .slice none 0 0, .bool false] 62 (0, 0)) ∧ w0.heap.size ≤ b0 ∧ ¬ (b0 = a ∨ b0 = b ∨ b0 = m ∨ b0 = t)
set_option maxHeartbeats 4000000 in
set_option maxRecDepth 100000 in
theorem one_any (w : World) (hw : Fine w) (c : Nat) (hc : c ≤ 1099511627776) (he : (ShL.bare 1 0 [] 0).led.errPut (ndN c) = 0) : Calls Tryz.prog 18 #[.int .i64 c] w fun e w' => ∃ W s l a b m t tv x y b0, e = .returned (.tuple #[.pointer (some ⟨W, 0, none⟩), .agg #[.int .i64 1, .int .i64 0, .int .i64 1, .int .i64 3, .slice (some ⟨b0, 0, none⟩) 1 1, .slice none 0 0, .bool false]]) ∧ OneAt1 w w' W s l a b m t tv (h0N 0 c) x y ∧ PodB w w' b0 a b m t 1 := by
  have HW := Lib.hid hw
  have HE := Lib.hid he
  clear hw he
  go_enter Tryz.func18, Tryz.ntmps18
  go_upto_region 1 with fail
  have z1 := alloc_at w (.cells #[.int .i64 0, .int .i64 0, .int .i64 0, .int .i64 0, .slice none 0 0, .slice none 0 0, .bool false] 28)
  have hb1 : Below w.heap.size w (w.alloc (.cells #[.int .i64 0, .int .i64 0, .int .i64 0, .int .i64 0, .slice none 0 0, .slice none 0 0, .bool false] 28)) := below_alloc' (Below.refl _ _) _
  generalize World.alloc w _ = w1 at z1 hb1 ⊢
  have HB1 := Lib.hid (And.intro hb1 z1)
  clear hb1 z1
  go_wp2_with fail
  refine (open_nil w1 0 (HW.out.below HB1.out.1)).mono ?_
  rintro e w2 ⟨W, s, l, a, b, m, t, x, y, lb, rfl, hL, hnew, -, -, -, hb2⟩
  have HL := Lib.hid (And.intro hL (And.intro hb2 hnew))
  obtain ⟨e0, e1, e2, e3, e4⟩ := cells5 hL.box
  have hzc : ∀ k, k < 7 → True := fun _ _ => trivial
  clear hL hnew hb2 hzc
  go_wp2_with fail
  refine (stnode_any (n := ndN c) HL.out.1.sh HL.out.1.fine.tabs HL.out.1.old LedL.none_ok (Nat.zero_le _) (Nat.zero_le _) (ndN_q _ _ c) (ndN_few hc)).mono ?_
  rintro e w3 ⟨rfl, hP⟩
  rw [HE.out]
  have hz2 := block_below HB1.out.2 HL.out.2.1
  have hO : OneAt1 w w2 W s l a b m t (.slice none 0 0) (ShL.bare 1 0 [] 0) x y := ⟨HL.out.1, by have := HL.out.2.2; have := HB1.out.1.size; exact ⟨by omega, by omega, by omega, by omega, fun g hg => by cases hg⟩, below_call HB1.out.1 HL.out.2.1⟩
  have hw1 := (Array.getElem?_eq_some_iff.1 HB1.out.2).1
  obtain ⟨tv, hO3, hM3⟩ := hO.did hP
  have hz3 := hM3.block' hz2 (fun hg => by have := HL.out.2.2; rcases hg with e | e | e | e | e <;> first | omega | cases e)
  have hO3 : OneAt1 w w3 W s l a b m t tv (h0N 0 c) x y := hO3
  have HO := Lib.hid (And.intro hO3 (And.intro hz3 hM3.size))
  obtain ⟨k0, k1, k2, k3, k4, k5, k6⟩ : _ ∧ _ ∧ _ ∧ _ ∧ _ ∧ _ ∧ _ := ⟨fun o => cell_of_block (old_al (o := o) hz3) 0 _ rfl, fun o => cell_of_block (old_al (o := o) hz3) 1 _ rfl, fun o => cell_of_block (old_al (o := o) hz3) 2 _ rfl, fun o => cell_of_block (old_al (o := o) hz3) 3 _ rfl, fun o => cell_of_block (old_al (o := o) hz3) 4 _ rfl, fun o => cell_of_block (old_al (o := o) hz3) 5 _ rfl, fun o => cell_of_block (old_al (o := o) hz3) 6 _ rfl⟩
  have kf : ∀ o j, (w3.alloc o).frozen? ⟨w.heap.size, j, none⟩ = false := fun o j => free_of_block (old_al hz3) j
  clear hz2 hO hO3 hM3 hz3 hP
  go_wp2_with fail
  obtain ⟨hz, hm⟩ := stores7 (.int .i64 1) (.int .i64 0) (.int .i64 1) (.int .i64 3) (.slice (some ⟨w3.heap.size, 0, none⟩) 1 1) (.slice none 0 0) (.bool false) (old_al (o := .cells #[.string ⟨#[112]⟩, .int .i64 1, .int .i64 1, .int .i64 0, .slice none 0 0, .slice none 0 0, .bool false] 62) HO.out.2.1)
  have hp := alloc_at w3 (.cells #[.string ⟨#[112]⟩, .int .i64 1, .int .i64 1, .int .i64 0, .slice none 0 0, .slice none 0 0, .bool false] 62)
  have hO4 := HO.out.1.of_below (below_alloc' (Below.refl _ _) (.cells #[.string ⟨#[112]⟩, .int .i64 1, .int .i64 1, .int .i64 0, .slice none 0 0, .slice none 0 0, .bool false] 62))
  have hO5 := hO4.typed (old_al HO.out.2.1) far_msg (by decide) (Nat.le_refl _) HW.out.low hm
  have hlt := (Array.getElem?_eq_some_iff.1 HO.out.2.1).1
  have hp5 := hm.block' hp (by omega)
  have hold := HO.out.1.lw.old
  generalize World.setCell _ _ _ = w5 at hz hm hO5 hp5 ⊢
  obtain ⟨q0, q1, q2, q3, q4, q5, q6⟩ := cells7 hz
  exact bodyPost_ret (v := .tuple #[.pointer (some ⟨W, 0, none⟩), .agg #[.int .i64 1, .int .i64 0, .int .i64 1, .int .i64 3, .slice (some ⟨w3.heap.size, 0, none⟩) 1 1, .slice none 0 0, .bool false]]) (by simp [results, Tryz.results18, go_sem, q0, q1, q2, q3, q4, q5, q6]) rfl
    ⟨W, s, l, a, b, m, t, tv, x, y, w3.heap.size, rfl, hO5, hp5, by omega, fun e => by have h1 := hold a (.inr (.inl rfl)); have h2 := hold b (.inr (.inr (.inl rfl))); have h3 := hold m (.inr (.inr (.inr rfl))); have h4 := hold t (.inl rfl); omega⟩
end Go.Proofs.YtofofjfmhaggmaaGreatDoor
/-! From each state each message leads to just one: plain. -/
set_option linter.unusedVariables false
set_option linter.unusedSimpArgs false
namespace Go.Proofs.YtofofjfmhaggmaaGreatDoor
open Go.RowKit

def prepM : MsgL := ⟨3, 0, 1, 3, [], [1, 2], false⟩
def decM (y : Bool) : MsgL := ⟨5, 0, 1, 3, [], [], y⟩
def askPM : MsgL := ⟨7, 2, 1, 3, [], [], false⟩
def tellM (y : Bool) : MsgL := ⟨8, 2, 1, 3, [], [], y⟩
def freeM : MsgL := ⟨9, 0, 1, 3, [], [], false⟩
/-- The state that is asked for is come to. -/
def stA1 (n : Nat) : ShL := if n = 0 then h0N 0 5 else ((h0N 0 5).get (holdM 3 1)).1
def stA2 (n : Nat) : ShL := if 2 ≤ n ∧ n ≠ 4 then ((stA1 n).get prepM).1 else stA1 n
def stA (n : Nat) : ShL := if n = 3 then ((stA2 n).get (decM true)).1 else if n = 4 then ((stA2 n).get (decM false)).1 else if n = 5 then ((stA2 n).get freeM).1 else stA2 n
def stM (k : Nat) (y : Bool) : MsgL := if k = 0 then holdM 3 1 else if k = 1 then prepM else if k = 2 then decM y else if k = 3 then askPM else if k = 4 then tellM y else freeM
def stB' (n k : Nat) (y : Bool) : ShL := ((stA n).get (stM k y)).1
def wantN (n k : Nat) (y : Bool) : Nat :=
  if k = 0 ∧ n = 0 then 1 else if k = 1 ∧ n = 1 then 2
  else if (k = 2 ∧ y = true ∧ n = 2) ∨ (k = 4 ∧ y = true ∧ n = 2) then 3
  else if (k = 2 ∧ y = false ∧ (n = 1 ∨ n = 2)) ∨ (k = 4 ∧ y = false ∧ n = 2) ∨ (k = 3 ∧ (n = 0 ∨ n = 1)) then 4
  else if k = 5 ∧ (n = 3 ∨ n = 2) then 5 else n
def hadN (n : Nat) : Bool := n == 1 || n == 2 || n == 3
set_option maxRecDepth 100000
def allN : Bool := (List.range 6).all fun n => stN ((stA n).st 3) == (n : Int) && (List.range 6).all fun k => [true, false].all fun y => stN ((stB' n k y).st 3) == (wantN n k y : Int) && ((stB' n k y).led.get 3).length == (if hadN (wantN n k y) then 1 else 0)
theorem allN_true : allN = true := by kernel_rfl
theorem st_at {n : Nat} (h : n < 6) : stN ((stA n).st 3) = n := by
  have := allN_true
  unfold allN at this
  rw [List.all_eq_true] at this
  have := this n (List.mem_range.2 h)
  rw [Bool.and_eq_true] at this
  simpa using this.1
theorem st_end {n k : Nat} (h : n < 6) (hk : k < 6) (y : Bool) : stN ((stB' n k y).st 3) = wantN n k y ∧ ((stB' n k y).led.get 3).length = if hadN (wantN n k y) then 1 else 0 := by
  have := allN_true
  unfold allN at this
  rw [List.all_eq_true] at this
  have := this n (List.mem_range.2 h)
  rw [Bool.and_eq_true, List.all_eq_true] at this
  have := this.2 k (List.mem_range.2 hk)
  rw [List.all_eq_true] at this
  have := this y (by cases y <;> simp)
  rw [Bool.and_eq_true] at this
  simpa using this
theorem prepM_b : MsgB prepM := ⟨by decide, fun h => absurd h (by decide), fun _ => by kernel_rfl⟩
theorem bareM_b (x : MsgL) (h : x.gang = 3) (h1 : x.kind ≠ 1) (h3 : x.kind ≠ 3) : MsgB x := ⟨by omega, fun e => absurd e h1, fun e => absurd e h3⟩
theorem stA_inv (n : Nat) : (stA n).inv 6 ∧ (stA n).recs.length ≤ 7 := by
  have H0 := h0N_inv 0 5
  have r0 : (h0N 0 5).recs.length ≤ 1 := node_recs _ _
  have H1 : (stA1 n).inv 2 ∧ (stA1 n).recs.length ≤ 3 := by
    unfold stA1
    split
    · exact ⟨H0.mono (by omega), by omega⟩
    · exact ⟨H0.get (holdM_b (by decide) (by decide)), by have := get_recs (h0N 0 5) (holdM 3 1); omega⟩
  have H2 : (stA2 n).inv 4 ∧ (stA2 n).recs.length ≤ 5 := by
    unfold stA2
    split
    · exact ⟨H1.1.get prepM_b, by have := get_recs (stA1 n) prepM; omega⟩
    · exact ⟨H1.1.mono (by omega), by omega⟩
  unfold stA
  split
  · exact ⟨H2.1.get (bareM_b _ rfl (by decide) (by decide)), by have := get_recs (stA2 n) (decM true); omega⟩
  split
  · exact ⟨H2.1.get (bareM_b _ rfl (by decide) (by decide)), by have := get_recs (stA2 n) (decM false); omega⟩
  split
  · exact ⟨H2.1.get (bareM_b _ rfl (by decide) (by decide)), by have := get_recs (stA2 n) freeM; omega⟩
  · exact ⟨H2.1.mono (by omega), by omega⟩
theorem stA1_inv (n : Nat) : (stA1 n).inv 2 ∧ (stA1 n).recs.length ≤ 3 := by
  have H0 := h0N_inv 0 5
  have r0 : (h0N 0 5).recs.length ≤ 1 := node_recs _ _
  unfold stA1
  split
  · exact ⟨H0.mono (by omega), by omega⟩
  · exact ⟨H0.get (holdM_b (by decide) (by decide)), by have := get_recs (h0N 0 5) (holdM 3 1); omega⟩
theorem stA2_inv (n : Nat) : (stA2 n).inv 4 ∧ (stA2 n).recs.length ≤ 5 := by
  have H1 := stA1_inv n
  unfold stA2
  split
  · exact ⟨H1.1.get prepM_b, by have := get_recs (stA1 n) prepM; omega⟩
  · exact ⟨H1.1.mono (by omega), by omega⟩
theorem stM_b (k : Nat) (y : Bool) : MsgB (stM k y) := by
  unfold stM
  split
  · exact holdM_b (by decide) (by decide)
  split
  · exact prepM_b
  split
  · exact bareM_b _ rfl (by simp [decM]) (by simp [decM])
  split
  · exact bareM_b _ rfl (by decide) (by decide)
  split
  · exact bareM_b _ rfl (by simp [tellM]) (by simp [tellM])
  · exact bareM_b _ rfl (by decide) (by decide)

/-! ### In memory -/
theorem ShardAt.keeps {Q : Nat → Prop} {w w' : World} {s l a b m t g : Nat} {tv : Value} {h : ShL} {cs : Array Value} {T : TypeId} (H : ShardAt Q w s l a b m t tv h) (k : Mod (fun g => g = a ∨ g = b ∨ g = m ∨ g = t ∨ tv.ownBlock = some g) w w') (hg : w.heap[g]? = some (.cells cs T (0, 0))) (h1 : T ≠ 89) (h2 : T ≠ 21) : w'.heap[g]? = some (.cells cs T (0, 0)) := by
  obtain ⟨ds, h4, _⟩ := H.tape
  obtain ⟨es, e1, _⟩ := H.led.nodes
  obtain ⟨fs, e2, _⟩ := H.led.taken
  obtain ⟨gs, e3, _⟩ := H.gangs
  refine k.block' hg ?_
  rintro (e | e | e | e | e)
  · exact mapS_ne e1 hg e
  · exact mapI_ne e2 hg e
  · exact mapI_ne e3 hg e
  · rw [e, h4.z] at hg
    injection hg with hg
    injection hg with _ hg
    exact h1 hg.symm
  · exact own_other h4.row hg (fun e => h2 e.symm) e
/-- A message without pods and peers is one, in any memory. -/
theorem bare_v (Q : Nat → Prop) (w : World) (x : MsgL) (h : x.pods = [] ∧ x.peers = []) : MsgV Q w (.agg #[.int .i64 x.kind, .int .i64 x.src, .int .i64 x.dst, .int .i64 x.gang, .slice none 0 0, .slice none 0 0, .bool x.yes]) x :=
  ⟨_, _, _, _, _, _, rfl, ⟨fun _ => [], by rw [h.1]; exact zrow, fun i hi => by rw [h.1] at hi; exact absurd hi (Nat.not_lt_zero _)⟩, by rw [h.2]; exact zrow⟩
theorem prep_v {Q : Nat → Prop} {w : World} {g : Nat} (hg : w.heap[g]? = some (.cells #[.int .i64 1, .int .i64 2] 3 (0, 0))) (hq : ¬ Q g) : MsgV Q w (.agg #[.int .i64 3, .int .i64 0, .int .i64 1, .int .i64 3, .slice none 0 0, .slice (some ⟨g, 0, none⟩) 2 2, .bool false]) prepM :=
  ⟨_, _, _, _, _, _, rfl, ⟨fun _ => [], zrow, fun i hi => absurd hi (Nat.not_lt_zero _)⟩, ⟨rfl, .inr ⟨g, 2, _, rfl, Nat.zero_le _, hg, Nat.le_refl _, by decide, rfl, rfl⟩⟩, fun k hk hqk => hq (by injection hk with hk; exact (show g = k from hk) ▸ hqk)⟩
/-- A world whose shard's blocks are new, and blocks that stay. -/
structure OneK (w0 w : World) (W s l a b m t : Nat) (tv : Value) (h : ShL) (x y : Nat) (K : List (Nat × Array Value × TypeId)) : Prop where
  one : OneAt1 w0 w W s l a b m t tv h x y
  keep : ∀ p ∈ K, w.heap[p.1]? = some (.cells p.2.1 p.2.2 (0, 0)) ∧ p.2.2 ≠ 89 ∧ p.2.2 ≠ 21
section
variable {w0 w w' : World} {W s l a b m t : Nat} {tv : Value} {h h' : ShL} {x y : Nat} {K : List (Nat × Array Value × TypeId)}
theorem OneK.below (H : OneK w0 w W s l a b m t tv h x y K) (k : Below w.heap.size w w') : OneK w0 w' W s l a b m t tv h x y K := ⟨H.one.of_below k, fun p hp => ⟨block_below (H.keep p hp).1 k, (H.keep p hp).2⟩⟩
theorem OneK.did (H : OneK w0 w W s l a b m t tv h x y K) (k : ShPost (Q3 (fun g => g = t) a b m) w s l a b m t tv h' w') : ∃ tv', OneK w0 w' W s l a b m t tv' h' x y K := by
  obtain ⟨tv', h1, h2⟩ := H.one.did k
  exact ⟨tv', h1, fun p hp => ⟨H.one.lw.sh.keeps h2 (H.keep p hp).1 (H.keep p hp).2.1 (H.keep p hp).2.2, (H.keep p hp).2⟩⟩
theorem OneK.add (H : OneK w0 w W s l a b m t tv h x y K) {g : Nat} {cs : Array Value} {T : TypeId} (hg : w.heap[g]? = some (.cells cs T (0, 0))) (h1 : T ≠ 89) (h2 : T ≠ 21) : OneK w0 w W s l a b m t tv h x y ((g, cs, T) :: K) := ⟨H.one, fun p hp => by
  rcases List.mem_cons.1 hp with rfl | hp
  · exact ⟨hg, h1, h2⟩
  · exact H.keep p hp⟩
theorem OneK.far (H : OneK w0 w W s l a b m t tv h x y K) {p : Nat × Array Value × TypeId} (hp : p ∈ K) : ¬ Q3 (fun g => g = t) a b m p.1 := by
  obtain ⟨hg, h1, h2⟩ := H.keep p hp
  obtain ⟨ds, h4, _⟩ := H.one.lw.sh.tape
  obtain ⟨es, e1, _⟩ := H.one.lw.sh.led.nodes
  obtain ⟨fs, e2, _⟩ := H.one.lw.sh.led.taken
  obtain ⟨gs, e3, _⟩ := H.one.lw.sh.gangs
  rintro (e | e | e | e)
  · rw [e, h4.z] at hg
    injection hg with hg
    injection hg with _ hg
    exact h1 hg.symm
  · exact mapS_ne e1 hg e
  · exact mapI_ne e2 hg e
  · exact mapI_ne e3 hg e
theorem OneK.get (H : OneK w0 w W s l a b m t tv h x y K) {n : Nat} (hi : h.inv n) (hn : n ≤ 1073741824) (hr : h.recs.length ≤ 990) {mv : Value} {xm : MsgL} (hm : MsgV (Q3 (fun g => g = t) a b m) w mv xm) (g : Nat) (hg : xm.gang = g) (hb : MsgB xm) :
    Calls Tryz.prog 14 #[.pointer (some ⟨s, 0, none⟩), mv] w fun e w' => (∃ v, e = .returned v ∧ MsgRow w.heap.size w' v (h.get xm).2) ∧ (∃ tv', OneK w0 w' W s l a b m t tv' (h.get xm).1 x y K) ∧ w.heap.size ≤ w'.heap.size := by
  refine (get_any H.one.lw.sh H.one.lw.fine.tabs H.one.lw.fine.tops H.one.lw.old hm g hg (hi.getOk hb hn hr)).mono ?_
  rintro e w' ⟨h1, h2⟩
  exact ⟨h1, H.did h2, by obtain ⟨_, _, hD⟩ := h2; exact hD.mod.size⟩
end
theorem hold_k {w0 w : World} {W s l a b m t : Nat} {tv : Value} {h : ShL} {x y : Nat} {K : List (Nat × Array Value × TypeId)} (H : OneK w0 w W s l a b m t tv h x y K) {b0 c : Nat} (g : Int) (hp : (b0, #[.string ⟨#[112]⟩, .int .i64 1, .int .i64 c, .int .i64 0, .slice none 0 0, .slice none 0 0, .bool false], 62) ∈ K) : MsgV (Q3 (fun g => g = t) a b m) w (.agg #[.int .i64 1, .int .i64 0, .int .i64 1, .int .i64 g, .slice (some ⟨b0, 0, none⟩) 1 1, .slice none 0 0, .bool false]) (holdM g c) := holdM_v (H.keep _ hp).1 (H.far hp)
theorem prep_k {w0 w : World} {W s l a b m t : Nat} {tv : Value} {h : ShL} {x y : Nat} {K : List (Nat × Array Value × TypeId)} (H : OneK w0 w W s l a b m t tv h x y K) {g : Nat} (hp : (g, #[.int .i64 1, .int .i64 2], 3) ∈ K) : MsgV (Q3 (fun g => g = t) a b m) w (.agg #[.int .i64 3, .int .i64 0, .int .i64 1, .int .i64 3, .slice none 0 0, .slice (some ⟨g, 0, none⟩) 2 2, .bool false]) prepM := prep_v (H.keep _ hp).1 (H.far hp)
end Go.Proofs.YtofofjfmhaggmaaGreatDoor
