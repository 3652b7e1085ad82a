/- The reference's post: how many, what stands at a place. -/
import Derived.Test.YtpkkjonajimefaaDoorSp
set_option linter.unusedVariables false
set_option linter.unusedSimpArgs false
namespace Go.Proofs.YtpkkjonajimefaaDoor
open Go.RowKit

def RefAt (B : Nat) (w : World) (x : Value) (ms : List MsgM) : Prop :=
  ∃ b sl, x = .pointer (some ⟨b, 0, none⟩) ∧ B ≤ b ∧ w.heap[b]? = some (.cells #[sl] 38 (0, 0)) ∧ MsgRow B w sl ms
def RefT (e : TypeId) : Prop := e = 38 ∨ MsgT e
theorem RefAt.still {B : Nat} {w w' : World} {x : Value} {ms : List MsgM} (h : RefAt B w x ms) (k : Still RefT w w') : RefAt B w' x ms := by
  obtain ⟨b, sl, e, h0, h1, h2⟩ := h
  exact ⟨b, sl, e, h0, k _ _ _ (.inl rfl) h1, h2.still (still_sub k fun e he => .inr he)⟩
theorem RefAt.below {B : Nat} {w w' : World} {x : Value} {ms : List MsgM} (h : RefAt B w x ms) (hb : Below w.heap.size w w') : RefAt B w' x ms := h.still (Still.of_below hb)
theorem rest_refT {w w' : World} (h : Still Rest w w') : Still RefT w w' := still_sub h fun e he => by rcases he with rfl | rfl | rfl | rfl | rfl <;> exact ⟨by decide, by decide⟩

theorem refLen_any (B : Nat) (w : World) (x : Value) (ms : List MsgM) (h : RefAt B w x ms) : Calls Tryd.prog 16 #[x] w fun e w' => e = .returned (.int .i64 ms.length) ∧ w = w' := by
  obtain ⟨b, sl, rfl, h0, h1, c, h2, h3⟩ := h
  obtain ⟨a, cp, rfl⟩ := own_slicen h2
  have c0 := cell_of_block h1 0 _ rfl
  clear h1 h2 h3
  go_enter Tryd.func16, Tryd.ntmps16
  go_wp2
  go_ret
  exact ⟨rfl, rfl⟩

/-- The seven cells of one message of a row. -/
theorem msgs_cells {B : Nat} {w : World} {a : Option Addr} {n c : Nat} {l : List MsgM} (h : MsgRow B w (.slice a n c) l) {k : Nat} (hk : k < l.length) :
    ∃ g a1 c1 a2 c2, a = some ⟨g, 0, none⟩ ∧ B ≤ g ∧ (∀ j x, [Value.int .i64 (l.getD k noMsg).kind, .int .i64 (l.getD k noMsg).src, .int .i64 (l.getD k noMsg).dst, .int .i64 (l.getD k noMsg).gang, .slice a1 (l.getD k noMsg).pods.length c1, .slice a2 (l.getD k noMsg).peers.length c2, .bool (l.getD k noMsg).yes][j]? = some x → w.cell? ⟨g, k * 7 + j, none⟩ = some x) ∧
      MsgAt 0 w (.agg #[.int .i64 (l.getD k noMsg).kind, .int .i64 (l.getD k noMsg).src, .int .i64 (l.getD k noMsg).dst, .int .i64 (l.getD k noMsg).gang, .slice a1 (l.getD k noMsg).pods.length c1, .slice a2 (l.getD k noMsg).peers.length c2, .bool (l.getD k noMsg).yes]) (l.getD k noMsg) ∧ (l.getD k noMsg).few := by
  obtain ⟨cc, h1, h2⟩ := h
  obtain ⟨g, cap, e, hg, _⟩ := (own_forms h1).resolve_left (by rintro ⟨_, h, _⟩; omega)
  injection e with e1 e2 e3
  subst e1 e2 e3
  obtain ⟨h7, hm, hf⟩ := h2 k hk
  have hm' := hm
  obtain ⟨u, x, e, ⟨_, h3, _⟩, h4⟩ := hm
  obtain ⟨a1, c1, rfl⟩ := own_slicen h3
  obtain ⟨a2, c2, rfl⟩ := own_slicen h4
  have ec : cc k = [.int .i64 (l.getD k noMsg).kind, .int .i64 (l.getD k noMsg).src, .int .i64 (l.getD k noMsg).dst, .int .i64 (l.getD k noMsg).gang, .slice a1 (l.getD k noMsg).pods.length c1, .slice a2 (l.getD k noMsg).peers.length c2, .bool (l.getD k noMsg).yes] := by
    have := congrArg (fun v : Value => match v with | .agg cs => cs.toList | _ => []) e
    simpa using this
  refine ⟨g, a1, c1, a2, c2, rfl, hg, fun j x hx => ?_, e ▸ hm', hf⟩
  have hj : j < 7 := by
    have := (List.getElem?_eq_some_iff.1 hx).1
    exact this
  rw [h1.cellAt _ (by have := Nat.mul_le_mul_right 7 (show k + 1 ≤ l.length from hk); omega), flat_get (s := 7) (fun i hi => (h2 i hi).1) hk hj, ec]
  exact hx

set_option maxHeartbeats 4000000 in
set_option maxRecDepth 100000 in
theorem refAt_any (B : Nat) (w : World) (x : Value) (ms : List MsgM) (h : RefAt B w x ms) (i : Int) : Calls Tryd.prog 33 #[x, .int .i64 i] w fun e w' =>
    ∃ v, e = .returned (.tuple #[v, .bool (decide (0 ≤ i ∧ i < ms.length))]) ∧ MsgAt w.heap.size w' v (atM ms i) ∧ Below w.heap.size w w' := by
  obtain ⟨b, sl, rfl, h0, h1, hrow⟩ := h
  have HROW := Lib.hid hrow
  obtain ⟨cc, hown, _⟩ := hrow
  obtain ⟨a, c, rfl⟩ := own_slicen hown
  have c0 : ∀ o, (w.alloc o).cell? ⟨b, 0, none⟩ = some (.slice a ms.length c) := fun o => cell_of_block (block_below h1 (below_alloc' (Below.refl _ _) _)) 0 _ rfl
  clear hown h1
  by_cases hr : 0 ≤ i ∧ i < (ms.length : Int)
  · obtain ⟨j, rfl⟩ : ∃ j : Nat, i = j := ⟨i.toNat, by omega⟩
    have hj : j < ms.length := by omega
    have hn : ¬ (j : Int) < 0 := by omega
    have hnl : ¬ (ms.length : Int) ≤ j := by omega
    have hjl : (j : Int) < ms.length := by omega
    rw [atM, if_pos hr, decide_eq_true hr, Int.toNat_natCast]
    obtain ⟨g, a1, c1, a2, c2, rfl, hBg, hcell, hm, hf⟩ := msgs_cells HROW.out hj
    obtain ⟨mj, hmj⟩ : ∃ mj, ms.getD j noMsg = mj := ⟨_, rfl⟩
    rw [hmj] at hcell hm hf ⊢
    have e0 : ∀ o, (w.alloc o).cell? ⟨g, j * 7, none⟩ = some (.int .i64 mj.kind) := fun o => cell_below (hcell 0 _ rfl) (below_alloc' (Below.refl _ _) _)
    have e1 : ∀ o, (w.alloc o).cell? ⟨g, j * 7 + 1, none⟩ = some (.int .i64 mj.src) := fun o => cell_below (hcell 1 _ rfl) (below_alloc' (Below.refl _ _) _)
    have e2 : ∀ o, (w.alloc o).cell? ⟨g, j * 7 + 2, none⟩ = some (.int .i64 mj.dst) := fun o => cell_below (hcell 2 _ rfl) (below_alloc' (Below.refl _ _) _)
    have e3 : ∀ o, (w.alloc o).cell? ⟨g, j * 7 + 3, none⟩ = some (.int .i64 mj.gang) := fun o => cell_below (hcell 3 _ rfl) (below_alloc' (Below.refl _ _) _)
    have e4 : ∀ o, (w.alloc o).cell? ⟨g, j * 7 + 4, none⟩ = some (.slice a1 mj.pods.length c1) := fun o => cell_below (hcell 4 _ rfl) (below_alloc' (Below.refl _ _) _)
    have e5 : ∀ o, (w.alloc o).cell? ⟨g, j * 7 + 5, none⟩ = some (.slice a2 mj.peers.length c2) := fun o => cell_below (hcell 5 _ rfl) (below_alloc' (Below.refl _ _) _)
    have e6 : ∀ o, (w.alloc o).cell? ⟨g, j * 7 + 6, none⟩ = some (.bool mj.yes) := fun o => cell_below (hcell 6 _ rfl) (below_alloc' (Below.refl _ _) _)
    have HM := Lib.hid hm
    have HF := Lib.hid hf
    clear hcell hm hf hmj hr
    go_enter Tryd.func33, Tryd.ntmps33
    go_wp2_with fail
    generalize hw2 : World.alloc w _ = w2
    have hb2 : Below w.heap.size w w2 := by rw [← hw2]; exact below_alloc' (Below.refl _ _) _
    have z0 : w2.heap[w.heap.size]? = some (.cells #[.int .i64 0, .int .i64 0, .int .i64 0, .int .i64 0, .slice none 0 0, .slice none 0 0, .bool false] 26 (0, 0)) := by rw [← hw2]; exact alloc_at _ _
    clear hw2 c0 e0 e1 e2 e3 e4 e5 e6
    refine (copied_any 0 w2 _ mj (HM.out.still (Still.of_below hb2)) HF.out).mono ?_
    rintro e w3 ⟨v', rfl, hv', hb3⟩
    have HV := Lib.hid hv'
    obtain ⟨u', x', rfl, ⟨cu, hru, _⟩, hix⟩ := hv'
    obtain ⟨b1, d1, rfl⟩ := own_slicen hru
    obtain ⟨b2, d2, rfl⟩ := own_slicen hix
    have y0 := block_below z0 hb3
    have HB3 := Lib.hid (below_call hb2 hb3)
    have HS2 := Lib.hid hb2.size
    have n0 := cell_of_block y0 0 _ rfl
    have n1 := cell_of_block y0 1 _ rfl
    have n2 := cell_of_block y0 2 _ rfl
    have n3 := cell_of_block y0 3 _ rfl
    have n4 := cell_of_block y0 4 _ rfl
    have n5 := cell_of_block y0 5 _ rfl
    have n6 := cell_of_block y0 6 _ rfl
    have fr := free_of_block y0
    have Y0 := Lib.hid y0
    clear z0 y0 hb2 hb3 hru hix
    go_wp2
    obtain ⟨zf, hbf⟩ := set7 w3 w.heap.size _ _ (.int .i64 mj.kind) (.int .i64 mj.src) (.int .i64 mj.dst) (.int .i64 mj.gang) (.slice b1 mj.pods.length d1) (.slice b2 mj.peers.length d2) (.bool mj.yes) Y0.out rfl
    generalize hwf : World.setCell _ _ _ = wf at zf hbf ⊢
    clear hwf n0 n1 n2 n3 n4 n5 n6 fr
    have f0 := cell_of_block zf 0 _ rfl
    have f1 := cell_of_block zf 1 _ rfl
    have f2 := cell_of_block zf 2 _ rfl
    have f3 := cell_of_block zf 3 _ rfl
    have f4 := cell_of_block zf 4 _ rfl
    have f5 := cell_of_block zf 5 _ rfl
    have f6 := cell_of_block zf 6 _ rfl
    exact bodyPost_ret (v := .tuple #[.agg #[.int .i64 mj.kind, .int .i64 mj.src, .int .i64 mj.dst, .int .i64 mj.gang, .slice b1 mj.pods.length d1, .slice b2 mj.peers.length d2, .bool mj.yes], .bool true]) (by simp [results, Tryd.results33, go_sem, f0, f1, f2, f3, f4, f5, f6]) rfl
      ⟨_, rfl, (HV.out.base HS2.out).still (hbf.still Y0.out (by unfold Parts; decide)), Below.but HB3.out hbf (Nat.le_refl _) HB3.out.size⟩
  · rw [atM, if_neg hr, decide_eq_false hr]
    by_cases hn : i < 0
    · go_enter Tryd.func33, Tryd.ntmps33
      go_wp2
      have zf := alloc_at w (.cells #[.int .i64 0, .int .i64 0, .int .i64 0, .int .i64 0, .slice none 0 0, .slice none 0 0, .bool false] 26)
      have f0 := cell_of_block zf 0 _ rfl
      have f1 := cell_of_block zf 1 _ rfl
      have f2 := cell_of_block zf 2 _ rfl
      have f3 := cell_of_block zf 3 _ rfl
      have f4 := cell_of_block zf 4 _ rfl
      have f5 := cell_of_block zf 5 _ rfl
      have f6 := cell_of_block zf 6 _ rfl
      exact bodyPost_ret (v := .tuple #[.agg #[.int .i64 0, .int .i64 0, .int .i64 0, .int .i64 0, .slice none 0 0, .slice none 0 0, .bool false], .bool false]) (by simp [results, Tryd.results33, go_sem, f0, f1, f2, f3, f4, f5, f6]) rfl
        ⟨_, rfl, noMsg_at _ _, below_alloc' (Below.refl _ _) _⟩
    · have hle : (ms.length : Int) ≤ i := by omega
      clear hr
      go_enter Tryd.func33, Tryd.ntmps33
      go_wp2
      have zf := alloc_at w (.cells #[.int .i64 0, .int .i64 0, .int .i64 0, .int .i64 0, .slice none 0 0, .slice none 0 0, .bool false] 26)
      have f0 := cell_of_block zf 0 _ rfl
      have f1 := cell_of_block zf 1 _ rfl
      have f2 := cell_of_block zf 2 _ rfl
      have f3 := cell_of_block zf 3 _ rfl
      have f4 := cell_of_block zf 4 _ rfl
      have f5 := cell_of_block zf 5 _ rfl
      have f6 := cell_of_block zf 6 _ rfl
      exact bodyPost_ret (v := .tuple #[.agg #[.int .i64 0, .int .i64 0, .int .i64 0, .int .i64 0, .slice none 0 0, .slice none 0 0, .bool false], .bool false]) (by simp [results, Tryd.results33, go_sem, f0, f1, f2, f3, f4, f5, f6]) rfl
        ⟨_, rfl, noMsg_at _ _, below_alloc' (Below.refl _ _) _⟩
end Go.Proofs.YtpkkjonajimefaaDoor
