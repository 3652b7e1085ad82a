/- The law's known answers hold. -/
import Derived.Test.YtpkkjonajimefaaDoorK
import Derived.Test.YtpkkjonajimefaaDoorR
set_option linter.unusedVariables false
set_option linter.unusedSimpArgs false
namespace Go.Proofs.YtpkkjonajimefaaDoor
open Go.RowKit

def ackMsg : MsgM := ⟨6, 2, 0, 7, [], [], false⟩
theorem ack_few : ackMsg.few := ⟨by decide, by decide, fun i h => absurd h (Nat.not_lt_zero _)⟩
def ackCells : List Value := [.int .i64 6, .int .i64 2, .int .i64 0, .int .i64 7, .slice none 0 0, .slice none 0 0, .bool false]
theorem ack_at (B : Nat) (w : World) : MsgAt B w (.agg ackCells.toArray) ackMsg :=
  ⟨_, _, rfl, ⟨fun _ => [], World.ownsRow_nil _ _ _ _, fun i h => absurd h (Nat.not_lt_zero _)⟩, World.ownsRow_nil _ _ _ _⟩
theorem ack_row {w : World} {g : Nat} (h : w.heap[g]? = some (.cells ackCells.toArray 26 (0, 0))) : MsgsAt w (.slice (some ⟨g, 0, none⟩) 1 1) [ackMsg] :=
  ⟨fun _ => ackCells, ⟨rfl, .inr ⟨g, 1, ackCells.toArray, rfl, Nat.zero_le _, h, Nat.le_refl _, by decide, rfl, rfl⟩⟩, fun i hi => by
    obtain rfl : i = 0 := by simpa using hi
    exact ⟨rfl, ack_at _ _, ack_few⟩⟩
theorem ack_text : textOf 6 2 0 7 false = [97, 99, 107, 32, 50, 32, 48, 32, 55] := by decide +kernel

set_option maxHeartbeats 2000000 in
set_option maxRecDepth 100000 in
theorem known_any (w : World) (ht : Tabs w) : Calls Tryd.prog 10 #[] w fun e w' => e = .returned (.bool true) ∧ Below w.heap.size w w' := by
  have HT := Lib.hid ht
  clear ht
  go_enter Tryd.func10, Tryd.ntmps10
  go_wp2_with (go_at_call 15; fail)
  refine (new_any w).mono ?_
  rintro e w1 ⟨b, rfl, hp1, hb1⟩
  have HP1 := Lib.hid hp1
  have HB1 := Lib.hid hb1
  clear hp1 hb1
  go_wp2_with (go_at_call 26; fail)
  refine (len_any _ _ _ [] HP1.out).mono ?_
  rintro e w2 ⟨rfl, rfl⟩
  go_wp2_with (go_at_call 22; fail)
  generalize hw3 : World.alloc w1 _ = w3
  have hb3 : Below w1.heap.size w1 w3 := by rw [← hw3]; exact below_alloc' (Below.refl _ _) _
  have z3 : w3.heap[w1.heap.size]? = some (.cells ackCells.toArray 26 (0, 0)) := by rw [← hw3]; exact alloc_at _ _
  clear hw3
  have hB3 := below_call HB1.out hb3
  refine (send_any w.heap.size w3 _ [] (HP1.out.below hb3) hB3.size _ [ackMsg] (ack_row z3) (by decide)).mono ?_
  rintro e w4 ⟨rfl, hp4, hb4, _⟩
  have HP4 : Hid (PostAt w.heap.size w4 (.pointer (some ⟨b, 0, none⟩)) [ackMsg]) := hp4
  have HB4 := Lib.hid (hB3.trans hb4)
  clear z3 hB3 hb3 hp4 hb4
  go_wp2_with (go_at_call 25; fail)
  refine (at_any w.heap.size w4 _ [ackMsg] HP4.out 0).mono ?_
  rintro e w5 ⟨v, rfl, hm5, hb5⟩
  have HP5 := Lib.hid (HP4.out.below hb5)
  have HB5 := Lib.hid (below_call HB4.out hb5)
  rw [if_pos (by decide)] at hm5
  obtain ⟨u, x, ev, ⟨_, q1, _⟩, q2⟩ := hm5
  obtain ⟨b1, l1, d1, rfl⟩ := own_slice q1
  obtain ⟨b2, l2, d2, rfl⟩ := own_slice q2
  have ev' : v = .agg #[.int .i64 6, .int .i64 2, .int .i64 0, .int .i64 7, .slice b1 l1 d1, .slice b2 l2 d2, .bool false] := ev
  subst ev'
  clear q1 q2 hb5 ev
  go_wp2_with (go_at_call 26; fail)
  generalize hw6 : World.alloc w5 _ = w6
  have hb6 : Below w5.heap.size w5 w6 := by rw [← hw6]; exact below_alloc' (Below.refl _ _) _
  have z6 : w6.heap[w5.heap.size]? = some (.cells #[.int .i64 6, .int .i64 2, .int .i64 0, .int .i64 7, .slice b1 l1 d1, .slice b2 l2 d2, .bool false] 26 (0, 0)) := by rw [← hw6]; exact alloc_at _ _
  clear hw6
  have HB6 := Lib.hid (below_call HB5.out hb6)
  refine (len_any _ _ _ _ (HP5.out.below hb6)).mono ?_
  rintro e w7 ⟨rfl, rfl⟩
  have f0 := cell_of_block z6 0 _ rfl
  have f1 := cell_of_block z6 1 _ rfl
  have f2 := cell_of_block z6 2 _ rfl
  have f3 := cell_of_block z6 3 _ rfl
  have f4 := cell_of_block z6 4 _ rfl
  have f5 := cell_of_block z6 5 _ rfl
  have f6 := cell_of_block z6 6 _ rfl
  clear z6 hb6
  go_wp2_with (go_at_call 13; fail)
  refine (text_any w6 (HT.out.below HB6.out) 6 2 0 7 _ _ false ⟨by decide, by decide⟩ ⟨by decide, by decide⟩ ⟨by decide, by decide⟩ ⟨by decide, by decide⟩).mono ?_
  rw [ack_text]
  rintro e w8 ⟨rfl, hb8⟩
  have HB8 := Lib.hid (below_call HB6.out hb8)
  clear hb8 f0 f1 f2 f3 f4 f5 f6
  have es : str [97, 99, 107, 32, 50, 32, 48, 32, 55] = ⟨#[97, 99, 107, 32, 50, 32, 48, 32, 55]⟩ := rfl
  rw [es]
  go_wp2
  go_ret
  exact ⟨rfl, HB8.out⟩
end Go.Proofs.YtpkkjonajimefaaDoor
