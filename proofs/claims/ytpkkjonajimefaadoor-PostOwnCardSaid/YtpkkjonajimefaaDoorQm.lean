/- The reference's comparison of equal messages. -/
import Derived.Test.YtpkkjonajimefaaDoorQ
set_option linter.unusedVariables false
set_option linter.unusedSimpArgs false
namespace Go.Proofs.YtpkkjonajimefaaDoor
open Go.RowKit

set_option maxHeartbeats 4000000 in
set_option maxRecDepth 100000 in
theorem same_any (b1 b2 : Nat) (w : World) (v1 v2 : Value) (m : MsgM) (h1 : MsgAt b1 w v1 m) (h2 : MsgAt b2 w v2 m) (hf : m.few) : Calls Tryd.prog 19 #[v1, v2] w fun e w' => e = .returned (.bool true) ∧ Below w.heap.size w w' := by
  obtain ⟨u1, x1, rfl, hu1, hx1⟩ := h1
  obtain ⟨u2, x2, rfl, hu2, hx2⟩ := h2
  have HU1 := Lib.hid hu1
  have HU2 := Lib.hid hu2
  obtain ⟨ua1, uc1, rfl⟩ := pods_len hu1
  obtain ⟨ua2, uc2, rfl⟩ := pods_len hu2
  obtain ⟨xa1, xc1, rfl⟩ := own_slicen hx1
  obtain ⟨xa2, xc2, rfl⟩ := own_slicen hx2
  have HX1 := Lib.hid hx1
  have HX2 := Lib.hid hx2
  have HF := Lib.hid hf
  clear hu1 hu2 hx1 hx2 hf
  obtain ⟨up, hup⟩ : ∃ up, m.pods.length = up := ⟨_, rfl⟩
  obtain ⟨xp, hxp⟩ : ∃ xp, m.peers.length = xp := ⟨_, rfl⟩
  rw [hup] at HU1 HU2 ⊢
  rw [hxp] at HX1 HX2 ⊢
  have HUP := Lib.hid hup
  have HXP := Lib.hid hxp
  clear hup hxp
  go_enter Tryd.func19, Tryd.ntmps19
  go_wp2_with fail
  generalize hw5 : World.alloc (World.alloc w _) _ = w5
  have hb5 : Below w.heap.size w w5 := by rw [← hw5]; exact below_alloc' (below_alloc' (Below.refl _ _) _) _
  have z6 : w5.heap[w.heap.size]? = some (.cells #[.int .i64 m.kind, .int .i64 m.src, .int .i64 m.dst, .int .i64 m.gang, .slice ua1 up uc1, .slice xa1 xp xc1, .bool m.yes] 26 (0, 0)) := by rw [← hw5, Below.heap_alloc _ _ _ (by simp)]; exact alloc_at _ _
  have z7 : w5.heap[w.heap.size + 1]? = some (.cells #[.int .i64 m.kind, .int .i64 m.src, .int .i64 m.dst, .int .i64 m.gang, .slice ua2 up uc2, .slice xa2 xp xc2, .bool m.yes] 26 (0, 0)) := by rw [← hw5]; exact alloc_second _ _ _
  clear hw5
  have HB5 := Lib.hid hb5
  have Z6 := Lib.hid z6
  have Z7 := Lib.hid z7
  clear hb5 z6 z7
  refine (pods_same _ _ w5 _ _ m.pods (HU1.out.still (Still.of_below HB5.out)) (HU2.out.still (Still.of_below HB5.out)) (by have := HF.out.1; omega) HF.out.2.2).mono ?_
  rintro r w7 ⟨rfl, hb⟩
  have HB7 := Lib.hid (below_call HB5.out hb)
  have d5 := cell_of_block (block_below Z6.out hb) 5 _ rfl
  have e5 := cell_of_block (block_below Z7.out hb) 5 _ rfl
  clear hb
  go_wp2_with fail
  refine (ints_same b1 b2 w7 _ _ m.peers (Ints.still HX1.out (Still.of_below HB7.out)) (Ints.still HX2.out (Still.of_below HB7.out)) (by have := HF.out.2.1; omega)).mono ?_
  rintro r w8 ⟨rfl, hb⟩
  have HB8 := Lib.hid (below_call HB7.out hb)
  clear hb d5 e5
  go_wp2
  go_ret
  exact ⟨rfl, HB8.out⟩
end Go.Proofs.YtpkkjonajimefaaDoor
