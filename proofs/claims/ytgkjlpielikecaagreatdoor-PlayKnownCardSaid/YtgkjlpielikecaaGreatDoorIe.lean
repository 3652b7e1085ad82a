/- A tick of the coordinator, as an event of a cell that knows nothing. -/
import Derived.Test.YtgkjlpielikecaaGreatDoorId
set_option linter.unusedVariables false
set_option linter.unusedSimpArgs false
namespace Go.Proofs.YtgkjlpielikecaaGreatDoor
open Go.RowKit

set_option maxHeartbeats 1000000 in
set_option maxRecDepth 100000 in
theorem up_zero (B : Nat) (w : World) (c wa p n : Nat) (mode : Int) (ts : List Nat) (h : CellK B w c wa p n mode (n + 1) ts) : Calls Tryz.prog 93 #[.pointer (some ⟨c, 0, none⟩), .int .i64 0, .int .i64 0] w fun e w' =>
    ∃ o t, e = .returned (.iface 130 (.pointer (some ⟨o, 0, none⟩))) ∧ CoordE w o n t ∧ w' = w := by
  obtain ⟨u, ws, hcb, _, _, _, _, _, hall⟩ := h
  obtain ⟨_, o, h1⟩ := hall 0 (by omega)
  rcases h1 with ⟨_, hv, hc⟩ | ⟨h, _⟩
  case inr => exact absurd h (by omega)
  obtain ⟨v0, wr, rfl⟩ : ∃ v r, ws = v :: r := by
    cases ws with
    | nil => exact absurd hcb.2.2 (by simp)
    | cons v r => exact ⟨v, r, rfl⟩
  have hv' : v0 = .iface 130 (.pointer (some ⟨o, 0, none⟩)) := by simpa using hv
  subst hv'
  have c2 := cell_of_block hcb.1 2 _ rfl
  have d0 := cell_of_block hcb.2.1 0 (.iface 130 (.pointer (some ⟨o, 0, none⟩))) (by simp)
  have HC := Lib.hid hc
  have hn0 : ¬ (0 : Int) ≥ (n : Int) + 1 := by omega
  have hn1 : (0 : Int) < (n : Int) + 1 := by omega
  clear hv hc hall hcb
  go_enter Tryz.func93, Tryz.ntmps93
  go_wp2
  go_end0
  go_wp2
  go_ret
  exact ⟨o, _, rfl, HC.out, rfl⟩

def evV (k a b id : Int) (ps nm cp mm mk tt cl : Value) : Value := .agg #[.int .i64 k, .int .i64 a, .int .i64 b, .int .i64 id, ps, nm, cp, mm, mk, tt, cl]
/-- Nothing to send. -/
theorem send_none (p : Nat) (w : World) : Calls Tryz.prog 92 #[.pointer (some ⟨p, 0, none⟩), .slice none 0 0] w fun e w' => e = .returned (.tuple #[]) ∧ w' = w := by
  go_enter Tryz.func92, Tryz.ntmps92
  go_wp2
  refine wp_loop_rounds 1 ?_
  rw [rounds_succ]
  go_wp2
  go_end0
  exact ⟨rfl, rfl⟩
theorem CellK.below {B : Nat} {w w' : World} {c wa p n k : Nat} {mode : Int} {ts : List Nat} (h : CellK B w c wa p n mode k ts) (hb : Below w.heap.size w w') : CellK B w' c wa p n mode k ts := by
  obtain ⟨u, ws, h1, h2, h3, h4, h5, h6, h7⟩ := h
  exact ⟨u, ws, h1.below hb, h2, h3, h4.below hb, h5, own_below h6 hb, fun i hi => ⟨(h7 i hi).1.below hb, (h7 i hi).2.kp (Kp.of_below hb)⟩⟩
theorem CellK.post {B : Nat} {w : World} {c wa p n k : Nat} {mode : Int} {ts : List Nat} (h : CellK B w c wa p n mode k ts) : w.cell? ⟨c, 3, none⟩ = some (.pointer (some ⟨p, 0, none⟩)) := by
  obtain ⟨u, ws, h1, _⟩ := h
  exact cell_of_block h1.1 3 _ rfl
set_option maxHeartbeats 4000000 in
set_option maxRecDepth 100000 in
theorem done_tick (B : Nat) (w : World) (c wa p n : Nat) (mode : Int) (ts : List Nat) (h : CellK B w c wa p n mode (n + 1) ts) (b id : Int) (g : Nat) (s : ByteArray) (x y : Int) (cl : Bool) (a1 a2 a3 : Option Addr) (l1 l2 l3 c1 c2 c3 : Nat) :
    Calls Tryz.prog 46 #[.pointer (some ⟨c, 0, none⟩), evV 9 0 b id (.slice a1 l1 c1) (.string s) (.int .i64 x) (.int .i64 y) (.slice a2 l2 c2) (.slice a3 l3 c3) (.bool cl)] w fun e w' => e = .returned (.int .i64 0) ∧ Below w.heap.size w w' := by
  have HH := Lib.hid h
  clear h
  unfold evV
  go_enter Tryz.func46, Tryz.ntmps46
  go_upto_region 21 with fail
  have hb1 : Below w.heap.size w (w.alloc (Obj.cells #[.int .i64 9, .int .i64 0, .int .i64 b, .int .i64 id, .slice a1 l1 c1, .string s, .int .i64 x, .int .i64 y, .slice a2 l2 c2, .slice a3 l3 c3, .bool cl] 38)) := below_alloc' (Below.refl _ _) _
  have hz := alloc_at w (Obj.cells #[.int .i64 9, .int .i64 0, .int .i64 b, .int .i64 id, .slice a1 l1 c1, .string s, .int .i64 x, .int .i64 y, .slice a2 l2 c2, .slice a3 l3 c3, .bool cl] 38)
  generalize World.alloc w _ = w1 at hb1 hz ⊢
  have hfacts : ∀ w6, Below w1.heap.size w1.drew w6 → w6.cell? ⟨c, 3, none⟩ = some (.pointer (some ⟨p, 0, none⟩)) ∧ w6.cell? ⟨w.heap.size, 1, none⟩ = some (.int .i64 0) ∧ CellK B w6 c wa p n mode (n + 1) ts := fun w6 h => by
    have hb : Below w1.heap.size w1 w6 := (Below.refl w1.heap.size w1).drew.trans h
    have k := (HH.out.below hb1).below hb
    exact ⟨k.post, cell_of_block (block_below hz hb) 1 _ rfl, k⟩
  have HF := Lib.hid hfacts
  have HB1 := Lib.hid hb1
  clear hb1 hz hfacts
  refine' Par.wp_region_pars (fun w w' => Below w.heap.size w w') 10 (by kernel_rfl) (by kernel_rfl) (by kernel_rfl) (by kernel_rfl) (by kernel_rfl) (by kernel_rfl)
    (fun w => Below.refl _ w) (fun h k => below_call h k) (fun vals => ?_)
  rotate_left
  simp only [List.take_succ_cons, List.take_zero, List.drop_succ_cons, List.drop_zero]
  (apply Par.par_x rfl; (focus (intro w6 hR hD K hK; replace hK := Lib.hid hK; skip; clear hR hD; go_simp; exact hK.out _ (Below.refl _ _))); simp only [Act.put, List.setIfInBounds_toArray, List.set_cons_zero, List.set_cons_succ, Nat.reduceAdd, List.cons_append, List.nil_append])
  (apply Par.par_x rfl; (focus (intro w6 hR hD K hK; replace hK := Lib.hid hK; skip; clear hR hD; go_simp; exact hK.out _ (Below.refl _ _))); simp only [Act.put, List.setIfInBounds_toArray, List.set_cons_zero, List.set_cons_succ, Nat.reduceAdd, List.cons_append, List.nil_append])
  (apply Par.par_x rfl; (focus (intro w6 hR hD K hK; replace hK := Lib.hid hK; skip; clear hR hD; go_simp; exact hK.out _ (Below.refl _ _))); simp only [Act.put, List.setIfInBounds_toArray, List.set_cons_zero, List.set_cons_succ, Nat.reduceAdd, List.cons_append, List.nil_append])
  (apply Par.par_x rfl; (focus (intro w6 hR hD K hK; replace hK := Lib.hid hK; obtain ⟨e0, e1, _⟩ := HF.out w6 hR; clear hR hD; go_simp; exact hK.out _ (Below.refl _ _))); simp only [Act.put, List.setIfInBounds_toArray, List.set_cons_zero, List.set_cons_succ, Nat.reduceAdd, List.cons_append, List.nil_append])
  (apply Par.par_x rfl; (focus (intro w6 hR hD K hK; replace hK := Lib.hid hK; skip; clear hR hD; go_simp; exact hK.out _ (Below.refl _ _))); simp only [Act.put, List.setIfInBounds_toArray, List.set_cons_zero, List.set_cons_succ, Nat.reduceAdd, List.cons_append, List.nil_append])
  (apply Par.par_x rfl; (focus (intro w6 hR hD K hK; replace hK := Lib.hid hK; skip; clear hR hD; go_simp; exact hK.out _ (Below.refl _ _))); simp only [Act.put, List.setIfInBounds_toArray, List.set_cons_zero, List.set_cons_succ, Nat.reduceAdd, List.cons_append, List.nil_append])
  (apply Par.par_x rfl; (focus (intro w6 hR hD K hK; replace hK := Lib.hid hK; obtain ⟨e0, e1, _⟩ := HF.out w6 hR; clear hR hD; go_simp; exact hK.out _ (Below.refl _ _))); simp only [Act.put, List.setIfInBounds_toArray, List.set_cons_zero, List.set_cons_succ, Nat.reduceAdd, List.cons_append, List.nil_append])
  (apply Par.par_r (fun v w' => ∃ o t, v = .iface 130 (.pointer (some ⟨o, 0, none⟩)) ∧ CoordE w' o n t) rfl (fun v w1 w2 h k => by obtain ⟨o, t, h1, h2⟩ := h; exact ⟨o, t, h1, h2.below k⟩); (focus (intro w6 hR hD K hK; replace hK := Lib.hid hK; obtain ⟨e0, e1, e2⟩ := HF.out w6 hR; clear hR hD e0 e1; go_simp; refine (up_zero B w6 c wa p n mode ts e2).mono ?_; rintro e w7 ⟨o, t, rfl, h1, rfl⟩; exact hK.out _ _ (Below.refl _ _) ⟨o, t, rfl, h1⟩)); simp only [Act.put, List.setIfInBounds_toArray, List.set_cons_zero, List.set_cons_succ, Nat.reduceAdd, List.cons_append, List.nil_append])
  (apply Par.par_x rfl; (focus (intro w6 hR hD K hK; replace hK := Lib.hid hK; obtain ⟨o, t, h1, h2⟩ : ∃ o t, vals 7 = .iface 130 (.pointer (some ⟨o, 0, none⟩)) ∧ CoordE w6 o n t := hD 7 (by kernel_rfl); simp only [h1] at hK ⊢; replace h2 := Lib.hid h2; clear hR hD h1; go_simp; refine (ctick_empty o t n w6 h2.out).mono ?_; rintro e w7 ⟨rfl, hb⟩; exact hK.out _ hb)); simp only [Act.put, List.setIfInBounds_toArray, List.set_cons_zero, List.set_cons_succ, Nat.reduceAdd, List.cons_append, List.nil_append])
  (apply Par.par_x rfl; (focus (intro w6 hR hD K hK; replace hK := Lib.hid hK; clear hR hD; go_simp; refine (send_none p w6).mono ?_; rintro e w7 ⟨rfl, rfl⟩; exact hK.out _ (Below.refl _ _))); simp only [Act.put, List.setIfInBounds_toArray, List.set_cons_zero, List.set_cons_succ, Nat.reduceAdd, List.cons_append, List.nil_append])
  refine Par.par_end fun w6 hR hp => ?_
  have HB6 := Lib.hid (HB1.out.trans (((Below.refl w1.heap.size w1).drew.trans hR).mono HB1.out.size))
  clear hR hp
  go_wp2
  go_ret
  exact ⟨rfl, HB6.out⟩
end Go.Proofs.YtgkjlpielikecaaGreatDoor
