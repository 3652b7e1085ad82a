/- Rows of messages that the call itself makes; what a post holds behind a row that is sent. -/
import Derived.Test.YtpkkjonajimefaaDoorKt
import Derived.Test.YtpkkjonajimefaaDoorMk
import Derived.Test.YtpkkjonajimefaaDoorN
set_option linter.unusedVariables false
set_option linter.unusedSimpArgs false
namespace Go.Proofs.YtpkkjonajimefaaDoor
open Go.RowKit

theorem elt_msgs : Elt Tryd.prog 31 26 7 88 := elt_of Tryd.underlying31 (by decide) (by decide) (by kernel_rfl)
theorem still_grown {w w' : World} {base n size : Nat} {T : TypeId} {v : Value} {xs : List Value} (h : w.ownsRow base T size v n xs) (hg : w.grownBy w' v.ownBlock) : Still (fun e => e ≠ T) w w' := by
  intro k cs e he hk
  have hl : k < w.heap.size := (Array.getElem?_eq_some_iff.1 hk).1
  rw [hg.block k hl ?_, hk]
  intro hv
  rcases h.2 with ⟨rfl, _⟩ | ⟨g', cap, cur, rfl, _, hh, _⟩
  · simp [Value.ownBlock] at hv
  · have : k = g' := by simpa [Value.ownBlock] using hv
    subst this
    rw [hk] at hh
    injection hh with hh
    injection hh with _ hh
    exact he hh
theorem PostAt.base {B B' : Nat} {w : World} {p : Value} {ms : List MsgM} (h : PostAt B w p ms) (hb : B' ≤ B) : PostAt B' w p ms := by
  obtain ⟨b, r, e, h0, h1, h2, sl, vs, h3, h4, h5⟩ := h
  exact ⟨b, r, e, Nat.le_trans hb h0, h1, Nat.le_trans hb h2, sl, vs, h3, own_base h4 hb, h5⟩
/-- The types of a post's blocks. -/
def PostT (e : TypeId) : Prop := e = 66 ∨ e = 20 ∨ e = 62 ∨ Parts e
theorem PostAt.still {B : Nat} {w w' : World} {p : Value} {ms : List MsgM} (h : PostAt B w p ms) (k : Still PostT w w') : PostAt B w' p ms := by
  obtain ⟨b, r, e, h0, h1, h2⟩ := h
  exact ⟨b, r, e, h0, k _ _ _ (.inl rfl) h1, h2.of_still fun g cs e he hg => k g cs e (.inr he) hg⟩
theorem still_sub {S T : TypeId → Prop} {w w' : World} (h : Still T w w') (hs : ∀ e, S e → T e) : Still S w w' := fun g cs e he hg => h g cs e (hs e he) hg
theorem postT_ne {e : TypeId} (h : PostT e) : e ≠ 26 := by
  rcases h with rfl | rfl | rfl | rfl | rfl | rfl <;> decide

/-- A row of messages, from block B on. -/
def MsgRow (B : Nat) (w : World) (v : Value) (l : List MsgM) : Prop :=
  ∃ c, w.ownsRow B 26 7 v l.length (flat l.length c) ∧ ∀ i, i < l.length → (c i).length = 7 ∧ MsgAt 0 w (.agg (c i).toArray) (l.getD i noMsg) ∧ (l.getD i noMsg).few
theorem MsgRow.at_ {B : Nat} {w : World} {v : Value} {l : List MsgM} (h : MsgRow B w v l) : MsgsAt w v l := by
  obtain ⟨c, h1, h2⟩ := h
  exact ⟨c, own_base h1 (Nat.zero_le _), h2⟩
def MsgT (e : TypeId) : Prop := e = 26 ∨ Parts e
theorem MsgRow.still {B : Nat} {w w' : World} {v : Value} {l : List MsgM} (h : MsgRow B w v l) (k : Still MsgT w w') : MsgRow B w' v l := by
  obtain ⟨c, h1, h2⟩ := h
  exact ⟨c, own_still h1 k (.inl rfl), fun i hi => ⟨(h2 i hi).1, (h2 i hi).2.1.still (still_sub k fun e he => .inr he), (h2 i hi).2.2⟩⟩
theorem MsgRow.nil (B : Nat) (w : World) : MsgRow B w (.slice none 0 0) [] := ⟨fun _ => [], World.ownsRow_nil _ _ _ _, fun i h => absurd h (Nat.not_lt_zero _)⟩
theorem rest_msgT {w w' : World} (h : Still Rest w w') : Still MsgT w w' := still_sub h fun e he => by rcases he with rfl | rfl | rfl | rfl <;> exact ⟨by decide, by decide⟩
/-- One more. -/
theorem MsgRow.snoc {B : Nat} {w w' : World} {v' : Value} {l : List MsgM} {m : MsgM} {cs : List Value} {c : Nat → List Value} (h2 : ∀ i, i < l.length → (c i).length = 7 ∧ MsgAt 0 w (.agg (c i).toArray) (l.getD i noMsg) ∧ (l.getD i noMsg).few) (hl : cs.length = 7) (hm : MsgAt 0 w (.agg cs.toArray) m) (hf : m.few)
    (hk : w'.ownsRow B 26 7 v' (l.length + 1) (flat l.length c ++ cs)) (hs : Still Parts w w') : MsgRow B w' v' (l ++ [m]) := by
  refine ⟨fun i => if i = l.length then cs else c i, ?_, fun i hi => ?_⟩
  · have := hk
    rw [List.length_append, List.length_singleton, flat_succ, if_pos rfl, flat_ext (d := c) (fun i hi => if_neg (by omega))]
    exact this
  · rw [List.length_append, List.length_singleton] at hi
    by_cases e : i = l.length
    · subst e
      show (if _ then cs else _).length = 7 ∧ MsgAt _ _ (.agg (if _ then cs else _).toArray) _ ∧ _
      rw [if_pos rfl, show (l ++ [m]).getD l.length noMsg = m by simp]
      exact ⟨hl, hm.still hs, hf⟩
    · have hi' : i < l.length := by omega
      show (if _ then cs else _).length = 7 ∧ MsgAt _ _ (.agg (if _ then cs else _).toArray) _ ∧ _
      rw [if_neg e, show (l ++ [m]).getD i noMsg = l.getD i noMsg by simp [List.getD_eq_getElem?_getD, List.getElem?_append_left hi']]
      exact ⟨(h2 i hi').1, (h2 i hi').2.1.still hs, (h2 i hi').2.2⟩
/-- The first ones. -/
theorem own_take {w : World} {B e size n n' g cap : Nat} {xs : List Value} (h : w.ownsRow B e size (.slice (some ⟨g, 0, none⟩) n cap) n xs) (hn : n' ≤ n) : w.ownsRow B e size (.slice (some ⟨g, 0, none⟩) n' cap) n' (xs.take (n' * size)) := by
  obtain ⟨h1, h2⟩ := h
  obtain ⟨g', cap', cur, e1, hb, hg, hc, hm, hs, ht⟩ := h2.resolve_left (by rintro ⟨h, _⟩; cases h)
  injection e1 with e1 e2 e3
  injection e1 with e1
  injection e1 with e1
  subst e1 e3
  have hmul : n' * size ≤ n * size := Nat.mul_le_mul_right _ hn
  refine ⟨by rw [List.length_take, h1]; omega, .inr ⟨g, cap, cur, rfl, hb, hg, by omega, hm, hs, ?_⟩⟩
  rw [← ht, List.take_take, Nat.min_eq_left hmul]
theorem flat_take (n n' : Nat) (hn : n' ≤ n) (c : Nat → List Value) (h : ∀ i, i < n → (c i).length = 7) : (flat n c).take (n' * 7) = flat n' c := by
  induction n with
  | zero =>
    obtain rfl : n' = 0 := by omega
    simp [flat]
  | succ n ih =>
    rw [flat_succ]
    have hl := flat_len (n := n) (s := 7) (c := c) (fun i hi => h i (by omega))
    by_cases e : n' ≤ n
    · rw [List.take_append_of_le_length (by rw [hl]; exact Nat.mul_le_mul_right _ e)]
      exact ih e (fun i hi => h i (by omega))
    · obtain rfl : n' = n + 1 := by omega
      rw [flat_succ, List.take_of_length_le]
      rw [List.length_append, hl, h n (by omega)]
      omega
theorem MsgRow.take {B : Nat} {w : World} {g n' cap : Nat} {l : List MsgM} (h : MsgRow B w (.slice (some ⟨g, 0, none⟩) l.length cap) l) (hn : n' ≤ l.length) : MsgRow B w (.slice (some ⟨g, 0, none⟩) n' cap) (l.take n') := by
  obtain ⟨c, h1, h2⟩ := h
  have hl : (l.take n').length = n' := by rw [List.length_take]; omega
  refine ⟨c, ?_, fun i hi => ?_⟩
  · have := own_take h1 hn
    rw [flat_take _ _ hn _ fun i hi => (h2 i hi).1] at this
    rw [hl]
    exact this
  · rw [hl] at hi
    rw [show (l.take n').getD i noMsg = l.getD i noMsg by simp [List.getD_eq_getElem?_getD, List.getElem?_take_of_lt hi]]
    exact h2 i (by omega)

theorem sent_eq : ∀ (l ms : List MsgM), ms.length ≤ 200 → sent ms l = (ms ++ l).take 200
  | [], ms, h => by rw [List.append_nil, List.take_of_length_le h]; rfl
  | m :: l, ms, h => by
    show sent (if ms.length < 200 then ms ++ [m] else ms) l = _
    by_cases h1 : ms.length < 200
    · rw [if_pos h1, sent_eq l _ (by simp; omega), List.append_assoc]
      rfl
    · rw [if_neg h1, sent_eq l ms h, List.take_append_of_le_length (by omega), List.take_append_of_le_length (by omega)]
/-- Answers, numbered from 1 on. -/
def ackN (i : Nat) : MsgM := ⟨6, 0, 0, i, [], [], false⟩
def acks (k : Nat) : List MsgM := (List.range k).map fun i => ackN (i + 1)
theorem ackN_few (i : Nat) : (ackN i).few := ⟨Nat.zero_le _, Nat.zero_le _, fun i h => absurd h (Nat.not_lt_zero _)⟩
theorem acks_len (k : Nat) : (acks k).length = k := by simp [acks]
theorem acks_get {k i : Nat} (h : i < k) : (acks k).getD i noMsg = ackN (i + 1) := by simp [acks, List.getD_eq_getElem?_getD, h]
theorem acks_succ (k : Nat) : acks (k + 1) = acks k ++ [ackN (k + 1)] := by simp [acks, List.range_succ]
theorem acks_take {k n : Nat} (h : n ≤ k) : (acks k).take n = acks n := by
  unfold acks
  rw [← List.map_take, List.take_range, Nat.min_eq_left h]
def ackV (i : Nat) : List Value := [.int .i64 6, .int .i64 0, .int .i64 0, .int .i64 i, .slice none 0 0, .slice none 0 0, .bool false]
theorem ackN_at (B i : Nat) (w : World) : MsgAt B w (.agg (ackV i).toArray) (ackN i) := ⟨_, _, rfl, ⟨fun _ => [], World.ownsRow_nil _ _ _ _, fun i h => absurd h (Nat.not_lt_zero _)⟩, World.ownsRow_nil _ _ _ _⟩

/-- A message that is there, told. -/
theorem at_get (B : Nat) (w : World) (p : Value) (L : List MsgM) (h : PostAt B w p L) (j : Nat) (hj : j < L.length) : Calls Tryd.prog 25 #[p, .int .i64 j] w fun e w' =>
    ∃ a1 c1 a2 c2, e = .returned (.tuple #[.agg #[.int .i64 (L.getD j noMsg).kind, .int .i64 (L.getD j noMsg).src, .int .i64 (L.getD j noMsg).dst, .int .i64 (L.getD j noMsg).gang, .slice a1 (L.getD j noMsg).pods.length c1, .slice a2 (L.getD j noMsg).peers.length c2, .bool (L.getD j noMsg).yes], .bool true]) ∧
      MsgAt w.heap.size w' (.agg #[.int .i64 (L.getD j noMsg).kind, .int .i64 (L.getD j noMsg).src, .int .i64 (L.getD j noMsg).dst, .int .i64 (L.getD j noMsg).gang, .slice a1 (L.getD j noMsg).pods.length c1, .slice a2 (L.getD j noMsg).peers.length c2, .bool (L.getD j noMsg).yes]) (L.getD j noMsg) ∧ Below w.heap.size w w' := by
  refine (at_any B w p L h j).mono ?_
  rintro e w' ⟨v, rfl, hv, hb⟩
  have hc : 0 ≤ (j : Int) ∧ (j : Int) < (L.length : Int) := by omega
  rw [if_pos hc, Int.toNat_natCast] at hv
  have hv' := hv
  obtain ⟨u, x, rfl, ⟨_, h1, _⟩, h2⟩ := hv
  obtain ⟨a1, c1, rfl⟩ := own_slicen h1
  obtain ⟨a2, c2, rfl⟩ := own_slicen h2
  exact ⟨a1, c1, a2, c2, by rw [decide_eq_true hc], hv', hb⟩
/-- A message that is there, taken. -/
theorem take_get (B : Nat) (w : World) (p : Value) (L : List MsgM) (h : PostAt B w p L) (hB : B ≤ w.heap.size) (j : Nat) (hj : j < L.length) : Calls Tryd.prog 17 #[p, .int .i64 j] w fun e w' =>
    ∃ a1 c1 a2 c2, e = .returned (.tuple #[.agg #[.int .i64 (L.getD j noMsg).kind, .int .i64 (L.getD j noMsg).src, .int .i64 (L.getD j noMsg).dst, .int .i64 (L.getD j noMsg).gang, .slice a1 (L.getD j noMsg).pods.length c1, .slice a2 (L.getD j noMsg).peers.length c2, .bool (L.getD j noMsg).yes], .bool true]) ∧
      MsgAt w.heap.size w' (.agg #[.int .i64 (L.getD j noMsg).kind, .int .i64 (L.getD j noMsg).src, .int .i64 (L.getD j noMsg).dst, .int .i64 (L.getD j noMsg).gang, .slice a1 (L.getD j noMsg).pods.length c1, .slice a2 (L.getD j noMsg).peers.length c2, .bool (L.getD j noMsg).yes]) (L.getD j noMsg) ∧ PostAt B w' p (L.eraseIdx j) ∧ Below B w w' ∧ Still Rest w w' := by
  refine (take_any B w p L h hB j).mono ?_
  rintro e w' ⟨v, rfl, hv, hp, hb, hs⟩
  have hc : 0 ≤ (j : Int) ∧ (j : Int) < (L.length : Int) := by omega
  rw [atM, if_pos hc, Int.toNat_natCast] at hv
  rw [takenM, if_pos hc, Int.toNat_natCast] at hp
  have hv' := hv
  obtain ⟨u, x, rfl, ⟨_, h1, _⟩, h2⟩ := hv
  obtain ⟨a1, c1, rfl⟩ := own_slicen h1
  obtain ⟨a2, c2, rfl⟩ := own_slicen h2
  exact ⟨a1, c1, a2, c2, by rw [decide_eq_true hc], hv', hp, hb, hs⟩
theorem copy_yes (B : Nat) (w : World) (p : Value) (L : List MsgM) (h : PostAt B w p L) (hB : B ≤ w.heap.size) (j : Nat) (hj : j < L.length) (hl : L.length < 200) : Calls Tryd.prog 20 #[p, .int .i64 j] w fun e w' =>
    e = .returned (.bool true) ∧ PostAt B w' p (L ++ [L.getD j noMsg]) ∧ Below B w w' ∧ Still Rest w w' := by
  refine (copy_any B w p L h hB j).mono ?_
  rintro e w' ⟨rfl, hp, hb, hs⟩
  have hc : (0 ≤ (j : Int) ∧ (j : Int) < (L.length : Int)) ∧ L.length < 200 := ⟨by omega, hl⟩
  rw [copiedM, if_pos hc, Int.toNat_natCast] at hp
  exact ⟨by rw [decide_eq_true hc], hp, hb, hs⟩
theorem copy_no (B : Nat) (w : World) (p : Value) (L : List MsgM) (h : PostAt B w p L) (hB : B ≤ w.heap.size) (j : Int) (hl : ¬ ((0 ≤ j ∧ j < (L.length : Int)) ∧ L.length < 200)) : Calls Tryd.prog 20 #[p, .int .i64 j] w fun e w' =>
    e = .returned (.bool false) ∧ PostAt B w' p L ∧ Below B w w' ∧ Still Rest w w' := by
  refine (copy_any B w p L h hB j).mono ?_
  rintro e w' ⟨rfl, hp, hb, hs⟩
  rw [copiedM, if_neg hl] at hp
  exact ⟨by rw [decide_eq_false hl], hp, hb, hs⟩
theorem len_is (B : Nat) (w : World) (p : Value) (L : List MsgM) (h : PostAt B w p L) (k : Nat) (hk : L.length = k) : Calls Tryd.prog 26 #[p] w fun e w' => e = .returned (.int .i64 k) ∧ w = w' := by
  rw [← hk]
  exact len_any B w p L h

/-- The same, where the gang alone matters. -/
theorem at_gang (B : Nat) (w : World) (p : Value) (L : List MsgM) (h : PostAt B w p L) (j : Nat) (hj : j < L.length) (q : Int) (hq : (L.getD j noMsg).gang = q) : Calls Tryd.prog 25 #[p, .int .i64 j] w fun e w' =>
    ∃ (kd sr ds : Int) (a1 : Option Addr) (l1 c1 : Nat) (a2 : Option Addr) (l2 c2 : Nat) (y : Bool), e = .returned (.tuple #[.agg #[.int .i64 kd, .int .i64 sr, .int .i64 ds, .int .i64 q, .slice a1 l1 c1, .slice a2 l2 c2, .bool y], .bool true]) ∧ Below w.heap.size w w' := by
  refine (at_get B w p L h j hj).mono ?_
  rintro e w' ⟨a1, c1, a2, c2, rfl, _, hb⟩
  subst hq
  exact ⟨_, _, _, _, _, _, _, _, _, _, rfl, hb⟩
theorem take_gang (B : Nat) (w : World) (p : Value) (L : List MsgM) (h : PostAt B w p L) (hB : B ≤ w.heap.size) (j : Nat) (hj : j < L.length) (q : Int) (hq : (L.getD j noMsg).gang = q) : Calls Tryd.prog 17 #[p, .int .i64 j] w fun e w' =>
    ∃ (kd sr ds : Int) (a1 : Option Addr) (l1 c1 : Nat) (a2 : Option Addr) (l2 c2 : Nat) (y : Bool), e = .returned (.tuple #[.agg #[.int .i64 kd, .int .i64 sr, .int .i64 ds, .int .i64 q, .slice a1 l1 c1, .slice a2 l2 c2, .bool y], .bool true]) ∧ PostAt B w' p (L.eraseIdx j) ∧ Below B w w' ∧ Still Rest w w' := by
  refine (take_get B w p L h hB j hj).mono ?_
  rintro e w' ⟨a1, c1, a2, c2, rfl, _, hp, hb, hs⟩
  subst hq
  exact ⟨_, _, _, _, _, _, _, _, _, _, rfl, hp, hb, hs⟩
end Go.Proofs.YtpkkjonajimefaaDoor
