/- Any event read; the chapter's lines. -/
import Derived.Test.YtikamehjeaoilaaGreatDoorJk
import Derived.Test.YtikamehjeaoilaaGreatDoorTk
set_option linter.unusedVariables false
set_option linter.unusedSimpArgs false
namespace Go.Proofs.YtikamehjeaoilaaGreatDoor
open Go.RowKit

def kindS (s : List UInt8) : Nat := kindOf ((splitC 32 s).getD 0 [])
def evOk (s : List UInt8) : Bool := if kindS s = 1 then twoOk 112 (splitC 32 s) else if kindS s = 4 then twoOk 110 (splitC 32 s) else if kindS s = 5 then twoOk 109 (splitC 32 s) else if kindS s = 10 then twoOk 98 (splitC 32 s) else oneOk (splitC 32 s)
def evS (s : List UInt8) : EvS := if kindS s = 1 then twoE 1 112 (splitC 32 s) else if kindS s = 4 then twoE 4 110 (splitC 32 s) else if kindS s = 5 then twoE 5 109 (splitC 32 s) else if kindS s = 10 then twoE 10 98 (splitC 32 s) else ⟨numV ((splitC 32 s).getD 1 []), 0, 0, [], noNode⟩
/-- Any line read: the event, or none. -/
theorem event_any (s : List UInt8) (hs : s.length ≤ 4294967000) (w : World) (ht : Tabs w) : Calls Tryz.prog 8 #[.string (str s)] w (EventPost (kindS s) (evOk s) (evS s) w) := by
  by_cases h1 : kindS s = 1
  · have := event_two s hs 112 1 h1 (.inl ⟨rfl, rfl⟩) w ht
    unfold evOk evS
    rw [if_pos h1, if_pos h1, h1]
    exact this
  · by_cases h4 : kindS s = 4
    · have := event_two s hs 110 4 h4 (.inr (.inl ⟨rfl, rfl⟩)) w ht
      unfold evOk evS
      rw [if_neg h1, if_neg h1, if_pos h4, if_pos h4, h4]
      exact this
    · by_cases h5 : kindS s = 5
      · have := event_two s hs 109 5 h5 (.inr (.inr (.inl ⟨rfl, rfl⟩))) w ht
        unfold evOk evS
        rw [if_neg h1, if_neg h1, if_neg h4, if_neg h4, if_pos h5, if_pos h5, h5]
        exact this
      · by_cases h10 : kindS s = 10
        · have := event_two s hs 98 10 h10 (.inr (.inr (.inr ⟨rfl, rfl⟩))) w ht
          unfold evOk evS
          rw [if_neg h1, if_neg h1, if_neg h4, if_neg h4, if_neg h5, if_neg h5, if_pos h10, if_pos h10, h10]
          exact this
        · unfold evOk evS
          rw [if_neg h1, if_neg h1, if_neg h4, if_neg h4, if_neg h5, if_neg h5, if_neg h10, if_neg h10]
          refine (event_one s (by omega) (fun k hk => by rw [← hk]; exact ⟨h1, h4, h5, h10⟩) w ht).mono ?_
          rintro e w' ⟨rfl, hb⟩
          by_cases ho : oneOk (splitC 32 s) = true
          · refine ⟨_, by unfold oneC; rw [ho], fun _ => ?_, fun h => (by rw [ho] at h; cases h), hb⟩
            unfold oneV
            rw [if_pos ho]
            exact ⟨.slice none 0 0, .slice none 0 0, .slice none 0 0, rfl, PodsT.nil _ _, World.ownsRow_nil _ _ _ _, World.ownsRow_nil _ _ _ _⟩
          · refine ⟨_, by unfold oneC; rw [if_neg ho], fun h => absurd h ho, fun _ => ?_, hb⟩
            unfold oneV
            rw [if_neg ho]
            rfl
def evBB (k : Nat) (s : EvS) : Bool :=
  decide (s.a ≤ 999999) && (decide (s.b ≤ 999999) && (decide (s.id ≤ 999999) && (s.pods.all (fun p => decide (p.shard ≤ 999999) && (decide (p.cpu ≤ 1099511627776) && (decide (p.mem ≤ 1099511627776) && decide ((podT p).length ≤ 4294967000)))) && (decide (s.pods.length ≤ 4294967000) && (decide (s.node.cpu ≤ 9223372036854775807) && (decide (s.node.mem ≤ 9223372036854775807) && (decide ((nodeT s.node).length ≤ 4294967000) && (decide (s.node.marks.length ≤ 4294967281) && (decide (s.node.taints.length ≤ 4294967281) && decide ((textE k s).length ≤ 140737488355328))))))))))
theorem EvB.of {k : Nat} {s : EvS} (h : evBB k s = true) : EvB k s := by
  unfold evBB at h
  simp only [Bool.and_eq_true, decide_eq_true_eq] at h
  obtain ⟨h1, h2, h3, h4, h5, h6, h7, h8, h9, h10, h11⟩ := h
  refine ⟨h1, h2, h3, fun p hp => ?_, h5, ⟨h6, h7, h8, h9, h10⟩, h11⟩
  have := List.all_eq_true.1 h4 p hp
  simpa only [Bool.and_eq_true, decide_eq_true_eq] using this
theorem same_nil (w : World) : Calls Tryz.prog 52 #[.slice none 0 0, .slice none 0 0] w fun e w' => e = .returned (.bool true) ∧ w = w' := by
  go_enter Tryz.func52, Tryz.ntmps52
  go_wp2
  refine wp_loop_rounds 1 ?_
  rw [rounds_succ]
  go_wp2
  go_ret
  exact ⟨rfl, rfl⟩
theorem rpods_nil (w : World) : Calls Tryz.prog 26 #[.slice none 0 0, .slice none 0 0] w fun e w' => e = .returned (.bool true) ∧ w = w' := by
  go_enter Tryz.func26, Tryz.ntmps26
  go_wp2
  refine wp_loop_rounds 1 ?_
  rw [rounds_succ]
  go_wp2
  go_ret
  exact ⟨rfl, rfl⟩
set_option maxHeartbeats 1000000 in
set_option maxRecDepth 100000 in
theorem rnode_zero (w : World) : Calls Tryz.prog 27 #[.agg #[.string ⟨#[]⟩, .int .i64 0, .int .i64 0, .slice none 0 0, .slice none 0 0, .bool false], .agg #[.string ⟨#[]⟩, .int .i64 0, .int .i64 0, .slice none 0 0, .slice none 0 0, .bool false]] w fun e w' => e = .returned (.bool true) ∧ Below w.heap.size w w' := by
  go_enter Tryz.func27, Tryz.ntmps27
  go_wp2_with fail
  refine (same_nil _).mono ?_
  rintro e w1 ⟨rfl, rfl⟩
  go_wp2_with fail
  refine (same_nil _).mono ?_
  rintro e w1 ⟨rfl, rfl⟩
  go_wp2
  go_ret
  exact ⟨rfl, below_alloc' (below_alloc' (Below.refl _ _) _) _⟩
set_option maxHeartbeats 1000000 in
set_option maxRecDepth 100000 in
theorem same_zero (w : World) : Calls Tryz.prog 10 #[zeroEv, zeroEv] w fun e w' => e = .returned (.bool true) ∧ Below w.heap.size w w' := by
  unfold zeroEv
  go_enter Tryz.func10, Tryz.ntmps10
  go_wp2_with fail
  have hb : ∀ o o', Below w.heap.size w ((w.alloc o).alloc o') := fun o o' => below_alloc' (below_alloc' (Below.refl _ _) _) _
  refine (rpods_nil _).mono ?_
  rintro e w1 ⟨rfl, rfl⟩
  go_wp2_with fail
  refine (rnode_zero _).mono ?_
  rintro e w2 ⟨rfl, hb2⟩
  have HB := Lib.hid (below_call (hb _ _) hb2)
  clear hb hb2
  go_wp2
  go_ret
  exact ⟨rfl, HB.out⟩
end Go.Proofs.YtikamehjeaoilaaGreatDoor
