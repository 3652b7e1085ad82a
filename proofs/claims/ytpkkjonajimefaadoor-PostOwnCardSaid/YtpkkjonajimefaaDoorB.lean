/- The post: new, how many, what stands at a place, put, sent. -/
import Derived.Test.YtpkkjonajimefaaDoorO
set_option linter.unusedVariables false
set_option linter.unusedSimpArgs false
namespace Go.Proofs.YtpkkjonajimefaaDoor
open Go.RowKit

def noMsg : MsgM := ⟨0, 0, 0, 0, [], [], false⟩
theorem noMsg_few : noMsg.few := ⟨by decide, by decide, fun i h => absurd h (Nat.not_lt_zero _)⟩
def ifs (vs : Nat → Value) (n : Nat) : List Value := (List.range n).map fun i => Value.iface 26 (vs i)
theorem ifs_succ (vs : Nat → Value) (n : Nat) : ifs vs (n + 1) = ifs vs n ++ [.iface 26 (vs n)] := by simp [ifs, List.range_succ]
theorem ifs_ext {vs ws : Nat → Value} {n : Nat} (h : ∀ i, i < n → vs i = ws i) : ifs vs n = ifs ws n := List.map_congr_left fun i hi => by rw [h i (List.mem_range.1 hi)]
theorem ifs_get {vs : Nat → Value} {n i : Nat} (h : i < n) : (ifs vs n)[i]? = some (.iface 26 (vs i)) := by simp [ifs, h]
/-- A bag in order at block r: its messages. -/
def BagAt (B : Nat) (w : World) (r : Nat) (ms : List MsgM) : Prop :=
  B ≤ r ∧ ∃ sl vs, w.heap[r]? = some (.cells #[sl] 62 (0, 0)) ∧ w.ownsRow B 20 1 sl ms.length (ifs vs ms.length) ∧ ∀ i, i < ms.length → MsgAt 0 w (vs i) (ms.getD i noMsg) ∧ (ms.getD i noMsg).few
/-- All stands but blocks of a bag's own types. -/
def Rest (e : TypeId) : Prop := e ≠ 20 ∧ e ≠ 62
theorem parts_rest {w w' : World} (h : Still Rest w w') : Still Parts w w' := fun g cs e he hg => h g cs e (by rcases he with rfl | rfl | rfl <;> exact ⟨by decide, by decide⟩) hg
theorem BagAt.below {B : Nat} {w w' : World} {r : Nat} {ms : List MsgM} (h : BagAt B w r ms) (hb : Below w.heap.size w w') : BagAt B w' r ms := by
  obtain ⟨h0, sl, vs, h1, h2, h3⟩ := h
  exact ⟨h0, sl, vs, block_below h1 hb, own_below h2 hb, fun i hi => ⟨(h3 i hi).1.still (Still.of_below hb), (h3 i hi).2⟩⟩
theorem BagAt.of_still {B : Nat} {w w' : World} {r : Nat} {ms : List MsgM} (h : BagAt B w r ms) (k : Still (fun e => e = 20 ∨ e = 62 ∨ Parts e) w w') : BagAt B w' r ms := by
  obtain ⟨h0, sl, vs, h1, h2, h3⟩ := h
  exact ⟨h0, sl, vs, k _ _ _ (.inr (.inl rfl)) h1, own_still h2 k (.inl rfl), fun i hi => ⟨(h3 i hi).1.still (fun g cs e he hg => k g cs e (.inr (.inr he)) hg), (h3 i hi).2⟩⟩

theorem elt_any : Elt Tryd.prog 60 20 1 16 := elt_of Tryd.underlying60 (by decide) (by decide) (by kernel_rfl)

theorem rlen_any (B : Nat) (w : World) (r : Nat) (ms : List MsgM) (h : BagAt B w r ms) : Calls Tryd.prog 85 #[.pointer (some ⟨r, 0, none⟩)] w fun e w' => e = .returned (.int .i64 ms.length) ∧ w = w' := by
  obtain ⟨h0, sl, vs, h1, h2, h3⟩ := h
  obtain ⟨a, c, rfl⟩ := own_slicen h2
  have c0 := cell_of_block h1 0 _ rfl
  clear h1 h2 h3
  go_enter Tryd.func85, Tryd.ntmps85
  go_wp2
  go_ret
  exact ⟨rfl, rfl⟩

theorem noMsg_at (B : Nat) (w : World) : MsgAt B w (.agg #[.int .i64 0, .int .i64 0, .int .i64 0, .int .i64 0, .slice none 0 0, .slice none 0 0, .bool false]) noMsg :=
  ⟨_, _, rfl, ⟨fun _ => [], World.ownsRow_nil _ _ _ _, fun i h => absurd h (Nat.not_lt_zero _)⟩, World.ownsRow_nil _ _ _ _⟩
theorem assert_msg (v : Value) (w : World) : (Instr.typeAssert (.iface 26 v) 20 26 true).run Tryd.prog w = .ok (.tuple #[v, .bool true]) w := by kernel_rfl

set_option maxHeartbeats 2000000 in
set_option maxRecDepth 100000 in
theorem rat_any (B : Nat) (w : World) (r : Nat) (ms : List MsgM) (h : BagAt B w r ms) (i : Int) : Calls Tryd.prog 84 #[.pointer (some ⟨r, 0, none⟩), .int .i64 i] w fun e w' =>
    ∃ v, e = .returned (.tuple #[v, .bool (decide (0 ≤ i ∧ i < ms.length))]) ∧ MsgAt w.heap.size w' v (if 0 ≤ i ∧ i < ms.length then ms.getD i.toNat noMsg else noMsg) ∧ Below w.heap.size w w' := by
  obtain ⟨h0, sl, vs, h1, h2, h3⟩ := h
  obtain ⟨a, c, rfl⟩ := own_slicen h2
  have c0 : ∀ o, (w.alloc o).cell? ⟨r, 0, none⟩ = some (.slice a ms.length c) := fun o => cell_of_block (block_below h1 (below_alloc' (Below.refl _ _) _)) 0 _ rfl
  have H2 := Lib.hid h2
  have H3 := Lib.hid h3
  clear h1 h2 h3
  have hasrt := assert_msg
  by_cases hn : i < 0
  · rw [if_neg (by omega), show decide (0 ≤ i ∧ i < (ms.length : Int)) = false from decide_eq_false (by omega)]
    go_enter Tryd.func84, Tryd.ntmps84
    go_wp2
    have zf := alloc_at w (.cells #[.int .i64 0, .int .i64 0, .int .i64 0, .int .i64 0, .slice none 0 0, .slice none 0 0, .bool false] 26)
    have f0 := cell_of_block zf 0 _ rfl
    have f1 := cell_of_block zf 1 _ rfl
    have f2 := cell_of_block zf 2 _ rfl
    have f3 := cell_of_block zf 3 _ rfl
    have f4 := cell_of_block zf 4 _ rfl
    have f5 := cell_of_block zf 5 _ rfl
    have f6 := cell_of_block zf 6 _ rfl
    exact bodyPost_ret (v := .tuple #[.agg #[.int .i64 0, .int .i64 0, .int .i64 0, .int .i64 0, .slice none 0 0, .slice none 0 0, .bool false], .bool false]) (by simp [results, Tryd.results84, go_sem, f0, f1, f2, f3, f4, f5, f6]) rfl
      ⟨_, rfl, noMsg_at _ _, below_alloc' (Below.refl _ _) _⟩
  · by_cases hl : (ms.length : Int) ≤ i
    · rw [if_neg (by omega), show decide (0 ≤ i ∧ i < (ms.length : Int)) = false from decide_eq_false (by omega)]
      go_enter Tryd.func84, Tryd.ntmps84
      go_wp2
      have zf := alloc_at w (.cells #[.int .i64 0, .int .i64 0, .int .i64 0, .int .i64 0, .slice none 0 0, .slice none 0 0, .bool false] 26)
      have f0 := cell_of_block zf 0 _ rfl
      have f1 := cell_of_block zf 1 _ rfl
      have f2 := cell_of_block zf 2 _ rfl
      have f3 := cell_of_block zf 3 _ rfl
      have f4 := cell_of_block zf 4 _ rfl
      have f5 := cell_of_block zf 5 _ rfl
      have f6 := cell_of_block zf 6 _ rfl
      exact bodyPost_ret (v := .tuple #[.agg #[.int .i64 0, .int .i64 0, .int .i64 0, .int .i64 0, .slice none 0 0, .slice none 0 0, .bool false], .bool false]) (by simp [results, Tryd.results84, go_sem, f0, f1, f2, f3, f4, f5, f6]) rfl
        ⟨_, rfl, noMsg_at _ _, below_alloc' (Below.refl _ _) _⟩
    · obtain ⟨j, rfl⟩ : ∃ j : Nat, i = j := ⟨i.toNat, by omega⟩
      have hj : j < ms.length := by omega
      rw [if_pos (by omega), show decide (0 ≤ (j : Int) ∧ (j : Int) < (ms.length : Int)) = true from decide_eq_true (by omega), Int.toNat_natCast]
      obtain ⟨g, cap, e, hg, hgs⟩ := (own_forms H2.out).resolve_left (by rintro ⟨_, h, _⟩; omega)
      injection e with e1 e2 e3
      subst e1 e3
      have ce : ∀ o, (w.alloc o).cell? ⟨g, j, none⟩ = some (.iface 26 (vs j)) := fun o => cell_below (show w.cell? ⟨g, j, none⟩ = _ by rw [H2.out.cellAt j (by omega), ifs_get hj]) (below_alloc' (Below.refl _ _) _)
      obtain ⟨hm, hfew⟩ := H3.out j hj
      obtain ⟨mj, hmj⟩ : ∃ mj, mj = ms.getD j noMsg := ⟨_, rfl⟩
      rw [← hmj] at hm hfew ⊢
      have HM := Lib.hid hm
      have HF := Lib.hid hfew
      obtain ⟨u, x, ev, ⟨_, hq1, _⟩, hq2⟩ := hm
      obtain ⟨b1, d1, rfl⟩ := own_slicen hq1
      obtain ⟨b2, d2, rfl⟩ := own_slicen hq2
      clear hq1 hq2
      clear hmj hfew
      rw [ev] at ce
      go_enter Tryd.func84, Tryd.ntmps84
      go_wp2_with (go_at_call 88; fail)
      generalize hw2 : World.alloc (World.alloc w _) _ = w2
      have hb2 : Below w.heap.size w w2 := by rw [← hw2]; exact below_alloc' (below_alloc' (Below.refl _ _) _) _
      have z0 : w2.heap[w.heap.size]? = some (.cells #[.int .i64 0, .int .i64 0, .int .i64 0, .int .i64 0, .slice none 0 0, .slice none 0 0, .bool false] 26 (0, 0)) := by rw [← hw2, Below.heap_alloc _ _ _ (by simp)]; exact alloc_at _ _
      clear hw2 c0 ce
      refine (own_any 0 w2 _ mj (ev ▸ HM.out.still (Still.of_below hb2)) HF.out).mono ?_
      rintro e w3 ⟨v', rfl, hv', hb3⟩
      have HV := Lib.hid hv'
      obtain ⟨u', x', rfl, ⟨cu, hru, _⟩, hix⟩ := hv'
      obtain ⟨a1, c1, rfl⟩ := own_slicen hru
      obtain ⟨a2, c2, rfl⟩ := own_slicen hix
      have y0 := block_below z0 hb3
      have HB3 := Lib.hid (below_call hb2 hb3)
      have HS2 := Lib.hid hb2.size
      have n0 := cell_of_block y0 0 _ rfl
      have n1 := cell_of_block y0 1 _ rfl
      have n2 := cell_of_block y0 2 _ rfl
      have n3 := cell_of_block y0 3 _ rfl
      have n4 := cell_of_block y0 4 _ rfl
      have n5 := cell_of_block y0 5 _ rfl
      have n6 := cell_of_block y0 6 _ rfl
      have fr := free_of_block y0
      have Y0 := Lib.hid y0
      clear z0 y0 hb2 hb3 hru hix ev
      go_wp2
      obtain ⟨zf, hbf⟩ := set7 w3 w.heap.size _ _ (.int .i64 mj.kind) (.int .i64 mj.src) (.int .i64 mj.dst) (.int .i64 mj.gang) (.slice a1 mj.pods.length c1) (.slice a2 mj.peers.length c2) (.bool mj.yes) Y0.out rfl
      generalize hwf : World.setCell _ _ _ = wf at zf hbf ⊢
      clear hwf n0 n1 n2 n3 n4 n5 n6 fr
      have f0 := cell_of_block zf 0 _ rfl
      have f1 := cell_of_block zf 1 _ rfl
      have f2 := cell_of_block zf 2 _ rfl
      have f3 := cell_of_block zf 3 _ rfl
      have f4 := cell_of_block zf 4 _ rfl
      have f5 := cell_of_block zf 5 _ rfl
      have f6 := cell_of_block zf 6 _ rfl
      exact bodyPost_ret (v := .tuple #[.agg #[.int .i64 mj.kind, .int .i64 mj.src, .int .i64 mj.dst, .int .i64 mj.gang, .slice a1 mj.pods.length c1, .slice a2 mj.peers.length c2, .bool mj.yes], .bool true]) (by simp [results, Tryd.results84, go_sem, f0, f1, f2, f3, f4, f5, f6]) rfl
        ⟨_, rfl, (HV.out.base HS2.out).still (hbf.still Y0.out (by unfold Parts; decide)), Below.but HB3.out hbf (Nat.le_refl _) HB3.out.size⟩
end Go.Proofs.YtpkkjonajimefaaDoor
