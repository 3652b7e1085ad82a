/- One that is prepared asks from its fourth tick on: plain. -/
import Derived.Test.YtofofjfmhaggmaaGreatDoorZl
set_option linter.unusedVariables false
set_option linter.unusedSimpArgs false
namespace Go.Proofs.YtofofjfmhaggmaaGreatDoor
open Go.RowKit

def plA : PlaceL := ⟨[112], [110], 0, 0, false⟩
def prepA (ps : List Nat) : MsgL := ⟨3, 0, 1, 3, [], ps, false⟩
def hH : ShL := ((h0N 0 0).get (holdM 3 0)).1
/-- Prepared, of such peers, of such an age. -/
def hP (ps : List Nat) (age : Int) : ShL := { h0N 0 0 with led := ⟨(h0N 0 0).led.nodes, [(3, [plA])]⟩, gangs := [(3, .prepared ps age)], recs := (h0N 0 0).recs ++ [recP 3 ps [plA]], lasting := 2 }
def hE (ps : List Nat) (yes : Bool) : ShL := ((hP ps 0).get (tellM yes)).1
/-- Who is asked. -/
def toL (ps : List Nat) : List Nat := 0 :: ps.filter fun k => !((Int.ofNat k) == 1)
section
set_option maxRecDepth 100000
theorem a_prep (ps : List Nat) : hH.get (prepA ps) = (hP ps 0, [⟨4, 1, 0, 3, [], [], true⟩]) := by kernel_rfl
theorem a_tick (ps : List Nat) (k : Int) : (hP ps k).tick = (hP ps (k + 1), (if 4 ≤ k + 1 then (hP ps 0).asks 3 ps else []) ++ []) := by kernel_rfl
theorem a_tell (ps : List Nat) (k : Int) (yes : Bool) : (hP ps k).get (tellM yes) = (hE ps yes, []) := by cases yes <;> kernel_rfl
theorem a_end (ps : List Nat) (yes : Bool) : (hE ps yes).tick = (hE ps yes, []) := by cases yes <;> kernel_rfl
theorem a_st (ps : List Nat) (yes : Bool) : stN ((hE ps yes).st 3) = if yes then 3 else 4 := by cases yes <;> kernel_rfl
theorem a_pl (ps : List Nat) (yes : Bool) : ((hE ps yes).led.get 3).length = if yes then 1 else 0 := by cases yes <;> kernel_rfl
theorem a_recs (ps : List Nat) (k : Int) : (hP ps k).recs.length = 2 := by kernel_rfl
theorem h_recs : hH.recs.length ≤ 990 := Nat.le_of_ble_eq_true (by kernel_rfl)
theorem a_set (ps : List Nat) (k : Int) : hP ps k = (hP ps 0).set 3 (.prepared ps k) := by kernel_rfl
end
theorem a_asks (ps : List Nat) : (hP ps 0).asks 3 ps = (toL ps).map fun k : Nat => askM 1 k 3 := rfl
theorem hH_inv : hH.inv 2 := (h0N_inv 0 0).get (holdM_b (g := 3) (c := 0) (by decide) (by decide))
theorem prepA_b {ps : List Nat} (h : peersB ps = true) : MsgB (prepA ps) := ⟨by simp [prepA], fun e => absurd e (by simp [prepA]), fun _ => h⟩
theorem hP_inv {ps : List Nat} (h : peersB ps = true) {k : Int} (hk : 0 ≤ k ∧ k ≤ 100) : (hP ps k).inv 101 := by
  have h0 : (hP ps 0).inv 4 := by
    have := hH_inv.get (prepA_b h)
    rwa [a_prep] at this
  rw [a_set]
  refine (h0.mono (by decide : 4 ≤ 100)).set (by decide) rfl ⟨hk.1, by omega, h⟩
theorem hE_inv {ps : List Nat} (h : peersB ps = true) (yes : Bool) : (hE ps yes).inv 103 := by
  have := (hP_inv h (k := 0) ⟨by decide, by decide⟩).get (x := tellM yes) (bareM_b _ rfl (by simp [tellM]) (by simp [tellM]))
  rwa [a_tell] at this
theorem peers_ne (n : Int) : peersL n ≠ [] := by
  have := peers_rises n
  simp only [peersB, Bool.and_eq_true, decide_eq_true_eq] at this
  exact this.2
/-- A row of whole numbers that stays: its block, whatever the world. -/
theorem row_stays {w : World} {base n : Nat} {e : TypeId} {v : Value} {xs : List Value} (h : w.ownsRow base e 1 v n xs) (hn : n ≠ 0) : ∃ g c cur, v = .slice (some ⟨g, 0, none⟩) n c ∧ base ≤ g ∧ w.heap[g]? = some (.cells cur e (0, 0)) ∧ ∀ w' : World, w'.heap[g]? = some (.cells cur e (0, 0)) → w'.ownsRow base e 1 v n xs := by
  obtain ⟨h1, h2⟩ := h
  rcases h2 with ⟨_, h0⟩ | ⟨g, c, cur, rfl, hb, hg, h3⟩
  · exact absurd h0 hn
  · exact ⟨g, c, cur, rfl, hb, hg, fun w' hg' => ⟨h1, .inr ⟨g, c, cur, rfl, hb, hg', h3⟩⟩⟩
theorem prepA_v {Q : Nat → Prop} {w : World} {g n c : Nat} {ps : List Nat} (h : w.ownsRow 0 3 1 (.slice (some ⟨g, 0, none⟩) n c) ps.length (ps.map fun k : Nat => Value.int .i64 k)) (hq : ¬ Q g) : MsgV Q w (.agg #[.int .i64 3, .int .i64 0, .int .i64 1, .int .i64 3, .slice none 0 0, .slice (some ⟨g, 0, none⟩) n c, .bool false]) (prepA ps) :=
  ⟨_, _, _, _, _, _, rfl, ⟨fun _ => [], zrow, fun i hi => absurd hi (Nat.not_lt_zero _)⟩, h, fun k hk hqk => hq (by injection hk with hk; exact (show g = k from hk) ▸ hqk)⟩
/-- A row of messages, cell by cell. -/
theorem msgRow_at {base : Nat} {w : World} {v : Value} {ms : List MsgL} (h : MsgRow base w v ms) {i : Nat} (hi : i < ms.length) : ∃ b c, v = .slice (some ⟨b, 0, none⟩) ms.length c ∧ w.cell? ⟨b, i * 7, none⟩ = some (.int .i64 ms[i].kind) ∧ w.cell? ⟨b, i * 7 + 1, none⟩ = some (.int .i64 ms[i].src) ∧ w.cell? ⟨b, i * 7 + 2, none⟩ = some (.int .i64 ms[i].dst) ∧ w.cell? ⟨b, i * 7 + 3, none⟩ = some (.int .i64 ms[i].gang) ∧ w.cell? ⟨b, i * 7 + 6, none⟩ = some (.bool ms[i].yes) := by
  have hget : ∀ (l : List MsgL) (i j : Nat) (hi : i < l.length), j < 7 → (l.flatMap bareM)[i * 7 + j]? = (bareM l[i])[j]? := fun l => by
    induction l with
    | nil => intro i j hi; exact absurd hi (Nat.not_lt_zero _)
    | cons x l ih =>
      intro i j hi hj
      have hx : (bareM x).length = 7 := rfl
      rw [List.flatMap_cons]
      cases i with
      | zero => rw [Nat.zero_mul, Nat.zero_add, List.getElem?_append_left (by omega)]; rfl
      | succ i =>
        rw [List.getElem?_append_right (by omega), hx, show (i + 1) * 7 + j - 7 = i * 7 + j by omega]
        exact ih i j (by simpa using hi) hj
  rcases own_forms h with ⟨_, h0, _⟩ | ⟨g, cap, rfl, _, _⟩
  · omega
  · have k : ∀ j, j < 7 → w.cell? ⟨g, i * 7 + j, none⟩ = (bareM ms[i])[j]? := fun j hj => by
      rw [h.cellAt (i * 7 + j) (by omega), hget ms i j hi hj]
    exact ⟨g, cap, rfl, k 0 (by omega), k 1 (by omega), k 2 (by omega), k 3 (by omega), k 6 (by omega)⟩
end Go.Proofs.YtofofjfmhaggmaaGreatDoor
