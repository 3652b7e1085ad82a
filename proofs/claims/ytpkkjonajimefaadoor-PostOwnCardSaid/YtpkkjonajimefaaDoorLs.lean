/- The law's comparison of a post with the document's. -/
import Derived.Test.YtpkkjonajimefaaDoorRw
import Derived.Test.YtpkkjonajimefaaDoorQm
set_option linter.unusedVariables false
set_option linter.unusedSimpArgs false
namespace Go.Proofs.YtpkkjonajimefaaDoor
open Go.RowKit

set_option maxHeartbeats 4000000 in
set_option maxRecDepth 100000 in
theorem lawSame_any (Bp Bx : Nat) (w : World) (p x : Value) (ms : List MsgM) (hp : PostAt Bp w p ms) (hx : RefAt Bx w x ms) (hms : ms.length ≤ 1000) : Calls Tryd.prog 24 #[p, x] w fun e w' => e = .returned (.bool true) ∧ Below w.heap.size w w' := by
  have HP := Lib.hid hp
  have HX := Lib.hid hx
  have hfew : ∀ i : Int, (atM ms i).few := fun i => by
    unfold atM
    split
    · obtain ⟨_, _, _, _, _, cc, _, h3⟩ := hx
      exact (h3 i.toNat (by omega)).2.2
    · exact noMsg_few
  have HFEW := Lib.hid hfew
  obtain ⟨pb, _, rfl, _⟩ := hp
  obtain ⟨xb, _, rfl, _⟩ := hx
  clear hfew
  go_enter Tryd.func24, Tryd.ntmps24
  go_wp2_with (first | (go_at_call 26; refine (len_any Bp w _ ms HP.out).mono ?_; rintro r w1 ⟨rfl, rfl⟩) | (go_at_call 16; refine (refLen_any Bx w _ ms HX.out).mono ?_; rintro r w1 ⟨rfl, rfl⟩))
  go_loopw [5] (fun i wr => ∃ q : Nat, i = .int .i64 ((q : Int) - 1) ∧ q ≤ ms.length + 2 ∧ Below w.heap.size w wr) (fun i _ => ms.length + 3 - ((intOf i) + 1).toNat)
  case atStart => exact ⟨0, rfl, Nat.zero_le _, Below.refl _ _⟩
  case round =>
    obtain ⟨q, rfl, hq, hb⟩ := hrel
    have HB := Lib.hid hb
    clear hb
    obtain ⟨i, hi⟩ : ∃ i : Int, (q : Int) - 1 = i := ⟨_, rfl⟩
    have hi1 : -1 ≤ i := by omega
    have hi2 : i ≤ 1001 := by omega
    by_cases hqt : q < ms.length + 2
    · have hle : i ≤ (ms.length : Int) := by omega
      rw [hi]
      have HI := Lib.hid hi
      clear hi
      obtain ⟨mj, hmj⟩ : ∃ mj, atM ms i = mj := ⟨_, rfl⟩
      obtain ⟨bj, hbj⟩ : ∃ bj, decide (0 ≤ i ∧ i < (ms.length : Int)) = bj := ⟨_, rfl⟩
      have hpc := at_any Bp wr _ ms (HP.out.below HB.out) i
      rw [hbj, show (if 0 ≤ i ∧ i < (ms.length : Int) then ms.getD i.toNat noMsg else noMsg) = mj from hmj] at hpc
      have hxc := fun w2 (h : Below w.heap.size w w2) => refAt_any Bx w2 _ ms (HX.out.below h) i
      rw [hbj, hmj] at hxc
      have HF : Hid mj.few := Lib.hid (hmj ▸ HFEW.out i)
      have HPC := Lib.hid hpc
      have HXC := Lib.hid hxc
      clear hpc hxc hmj hbj
      go_wp2_with (first | (go_at_call 16; refine (refLen_any Bx wr _ ms (HX.out.below HB.out)).mono ?_; rintro r w1 ⟨rfl, rfl⟩) | (go_at_call 25; fail))
      refine HPC.out.mono ?_
      rintro r w5 ⟨v, rfl, hv, hb5⟩
      have HV := Lib.hid hv
      obtain ⟨a1, c1, a2, c2, rfl⟩ := msg_agg hv
      have HB5 := Lib.hid (below_call HB.out hb5)
      clear hv hb5
      go_wp2_with (go_at_call 33; fail)
      generalize hw6 : World.alloc w5 _ = w6
      have hb6 : Below w5.heap.size w5 w6 := by rw [← hw6]; exact below_alloc' (Below.refl _ _) _
      have z6 : w6.heap[w5.heap.size]? = some (.cells #[.int .i64 mj.kind, .int .i64 mj.src, .int .i64 mj.dst, .int .i64 mj.gang, .slice a1 mj.pods.length c1, .slice a2 mj.peers.length c2, .bool mj.yes] 26 (0, 0)) := by rw [← hw6]; exact alloc_at _ _
      clear hw6
      refine (HXC.out w6 (below_call HB5.out hb6)).mono ?_
      rintro r w7 ⟨v, rfl, hv, hb7⟩
      have HV7 := Lib.hid hv
      obtain ⟨b1, d1, b2, d2, rfl⟩ := msg_agg hv
      have HB7 := Lib.hid (below_call (below_call HB5.out hb6) hb7)
      have hv57 := (HV.out.still (Still.of_below hb6)).still (Still.of_below hb7)
      have HV57 := Lib.hid hv57
      have z7 := block_below z6 hb7
      have c0 : ∀ o, (w7.alloc o).cell? ⟨w5.heap.size, 0, none⟩ = some (.int .i64 mj.kind) := fun o => cell_of_block (block_below z7 (below_alloc' (Below.refl _ _) _)) 0 _ rfl
      have c1' : ∀ o, (w7.alloc o).cell? ⟨w5.heap.size, 1, none⟩ = some (.int .i64 mj.src) := fun o => cell_of_block (block_below z7 (below_alloc' (Below.refl _ _) _)) 1 _ rfl
      have c2' : ∀ o, (w7.alloc o).cell? ⟨w5.heap.size, 2, none⟩ = some (.int .i64 mj.dst) := fun o => cell_of_block (block_below z7 (below_alloc' (Below.refl _ _) _)) 2 _ rfl
      have c3' : ∀ o, (w7.alloc o).cell? ⟨w5.heap.size, 3, none⟩ = some (.int .i64 mj.gang) := fun o => cell_of_block (block_below z7 (below_alloc' (Below.refl _ _) _)) 3 _ rfl
      have c4' : ∀ o, (w7.alloc o).cell? ⟨w5.heap.size, 4, none⟩ = some (.slice a1 mj.pods.length c1) := fun o => cell_of_block (block_below z7 (below_alloc' (Below.refl _ _) _)) 4 _ rfl
      have c5' : ∀ o, (w7.alloc o).cell? ⟨w5.heap.size, 5, none⟩ = some (.slice a2 mj.peers.length c2) := fun o => cell_of_block (block_below z7 (below_alloc' (Below.refl _ _) _)) 5 _ rfl
      have c6' : ∀ o, (w7.alloc o).cell? ⟨w5.heap.size, 6, none⟩ = some (.bool mj.yes) := fun o => cell_of_block (block_below z7 (below_alloc' (Below.refl _ _) _)) 6 _ rfl
      clear hv hb6 z6 hb7 hv57 z7
      go_wp2_with (go_at_call 19; fail)
      generalize hw8 : World.alloc w7 _ = w8
      have hb8 : Below w7.heap.size w7 w8 := by rw [← hw8]; exact below_alloc' (Below.refl _ _) _
      clear hw8 c0 c1' c2' c3' c4' c5' c6'
      refine (same_any _ _ w8 _ _ mj (HV57.out.still (Still.of_below hb8)) (HV7.out.still (Still.of_below hb8)) HF.out).mono ?_
      rintro r w9 ⟨rfl, hb9⟩
      have HB9 := Lib.hid (below_call (below_call HB7.out hb8) hb9)
      clear hb8 hb9
      go_wp2
      go_roundw
      case rel => exact ⟨q + 1, by have := HI.out; rw [show ((q + 1 : Nat) : Int) - 1 = i + 1 by omega], by omega, HB9.out⟩
      case measure => have := HI.out; simp [intOf]; omega
    · have hle : ¬ i ≤ (ms.length : Int) := by omega
      rw [hi]
      clear hi
      go_wp2_with (go_at_call 16; refine (refLen_any Bx wr _ ms (HX.out.below HB.out)).mono ?_; rintro r w1 ⟨rfl, rfl⟩)
      go_ret
      exact ⟨rfl, HB.out⟩
end Go.Proofs.YtpkkjonajimefaaDoor
