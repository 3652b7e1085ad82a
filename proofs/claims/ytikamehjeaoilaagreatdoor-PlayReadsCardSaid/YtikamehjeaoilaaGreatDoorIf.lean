/- The keys of an empty map, sorted: there are none; a tick of a coordinator that knows nothing. -/
import Derived.Test.YtikamehjeaoilaaGreatDoorIc
import Derived.Test.YtikamehjeaoilaaGreatDoorIter
import Derived.Defers
import Derived.Recover
set_option linter.unusedVariables false
set_option linter.unusedSimpArgs false
namespace Go.Proofs.YtikamehjeaoilaaGreatDoor
open Go.RowKit Go.Maps Go.Sort Go.Shelf

theorem sortsA (m : Nat) : AnyZI.SortsIn Tryz.prog Tryz.sortedA_ren Fence.wide m :=
  ⟨fun blk off cap ss W hH hblk hsz => callsIn_wide.2 (AnyM.slices_Sort_int Tryz.sortA blk off cap ss W hH hblk hsz),
   fun p cap W => callsIn_wide.2 (AnyM.slices_Sort_int_none Tryz.sortA p cap W)⟩
theorem keysA_any (mb : Option Nat) (W : World) : Calls Tryz.prog 316 #[.map mb] W fun e w' => e = .returned (.func (.func 317) #[] #[.pointer (some ⟨W.heap.size, 0, none⟩)]) ∧ w' = W.alloc (.cells #[.map mb] 186) :=
  (callsIn_wide (n := 5)).1 (AnyZI.keys_in Tryz.keysA Fence.wide 5 trivial rfl mb W)
theorem own_empty {H : Type} {w : World} {m : Nat} (h : MapE w m) (P : Program) (k : TypeId) (R : Value → Option (DataW H × List MemPlace)) : w.ownsMap P k R m 0 (.map []) := by
  obtain ⟨es, clock, h1, h2, h3, h4⟩ := World.ownsMap_made w P k R
  have := alloc_at w (.map #[] 0)
  rw [this] at h1
  injection h1 with h1
  injection h1 with e1 e2
  subst e1 e2
  exact ⟨_, _, h, h2, h3, h4⟩
set_option maxHeartbeats 1000000 in
theorem sortedA_empty (m : Nat) (w : World) (hm : MapE w m) : Calls Tryz.prog 234 #[.func (.func 317) #[] #[.pointer (some ⟨w.heap.size, 0, none⟩)]] (w.alloc (.cells #[.map (some m)] 186)) fun e w' => e = .returned (.slice none 0 0) ∧ Below w.heap.size w w' := by
  have hseq : SeqGives Fence.wide 2 Tryz.prog 317 #[.pointer (some ⟨w.heap.size, 0, none⟩)] encZ (fun ss => ss.Perm (intKeys (.map [] : DataW Unit))) (Maps.size (.map [] : DataW Unit)) (w.alloc (.cells #[.map (some m)] 186)) :=
    AnyZI.keys_gives (ρ := Tryz.keysA_ren) { Tryz.keysA with } Fence.wide _ trivial rfl (by omega) w.heap.size m 0 (.map []) (R := fun _ => none) _ (by simp) (by simp) (own_empty (hm.below (below_alloc' (Below.refl _ _) _)) _ _ _)
  have cS := AnyZI.sorted_in Tryz.sortedA Fence.wide 5 trivial trivial trivial trivial rfl (by omega) (sortsA _) (enters_of Tryz.func172 (by kernel_rfl) rfl) 317 #[.pointer (some ⟨w.heap.size, 0, none⟩)] trivial (enters_of Tryz.func317 (by kernel_rfl) rfl) _ _ (by decide) (by decide) _ hseq
  refine ((callsIn_wide (n := 5)).1 cS).mono ?_
  rintro e w' ⟨v, ss, rfl, hS, hrow, hnil, hb⟩
  have : ss = [] := by
    have h2 : intKeys (.map [] : DataW Unit) = [] := by rfl
    rw [h2] at hS
    exact List.Perm.eq_nil hS
  exact ⟨by rw [hnil.2 this], (below_alloc' (Below.refl _ _) _).trans (hb.mono (by simp))⟩

set_option maxHeartbeats 1000000 in
set_option maxRecDepth 100000 in
theorem gangs_empty (c t : Nat) (n : Int) (w : World) (h : CoordE w c n t) : Calls Tryz.prog 310 #[.pointer (some ⟨c, 0, none⟩)] w fun e w' => e = .returned (.slice none 0 0) ∧ Below w.heap.size w w' := by
  obtain ⟨m, h1, h2⟩ := h
  have c2 := cell_of_block h1 2 _ rfl
  have H2 := Lib.hid h2
  clear h1 h2
  go_enter Tryz.func310, Tryz.ntmps310
  go_wp2_with fail
  refine (keysA_any (some m) w).mono ?_
  rintro e w1 ⟨rfl, rfl⟩
  go_wp2_with fail
  refine (sortedA_empty m w H2.out).mono ?_
  rintro e w1 ⟨rfl, hb⟩
  have HB := Lib.hid hb
  clear hb
  go_wp2_with fail
  refine (Tryz.slices_Clone_int_nil 0 0 w1).mono ?_
  rintro e w2 ⟨rfl, rfl⟩
  go_wp2
  go_ret
  exact ⟨rfl, HB.out⟩
set_option maxHeartbeats 1000000 in
set_option maxRecDepth 100000 in
theorem ctick_empty (c t : Nat) (n : Int) (w : World) (h : CoordE w c n t) : Calls Tryz.prog 304 #[.pointer (some ⟨c, 0, none⟩)] w fun e w' => e = .returned (.slice none 0 0) ∧ Below w.heap.size w w' := by
  have H := Lib.hid h
  clear h
  go_enter Tryz.func304, Tryz.ntmps304
  go_wp2_with fail
  refine (gangs_empty c t n w H.out).mono ?_
  rintro e w1 ⟨rfl, hb⟩
  have HB := Lib.hid hb
  clear hb
  go_wp2_with fail
  have hq : ∀ w, (binOp .eql 148 (.slice none 0 0) (.slice none 0 0)).run Tryz.prog w = .ok (.bool true) w := fun w => by kernel_rfl
  refine wp_loop_rounds 1 ?_
  rw [rounds_succ]
  go_wp2
  go_ret
  exact ⟨rfl, HB.out⟩
end Go.Proofs.YtikamehjeaoilaaGreatDoor
/-! A tick of the coordinator, as an event of a cell that knows nothing. -/
set_option linter.unusedVariables false
set_option linter.unusedSimpArgs false
namespace Go.Proofs.YtikamehjeaoilaaGreatDoor
open Go.RowKit

set_option maxHeartbeats 1000000 in
set_option maxRecDepth 100000 in
theorem up_zero (B : Nat) (w : World) (c wa p n : Nat) (mode : Int) (ts : List Nat) (h : CellK B w c wa p n mode (n + 1) ts) : Calls Tryz.prog 99 #[.pointer (some ⟨c, 0, none⟩), .int .i64 0, .int .i64 0] w fun e w' =>
    ∃ o t, e = .returned (.iface 141 (.pointer (some ⟨o, 0, none⟩))) ∧ CoordE w o n t ∧ w' = w := by
  obtain ⟨u, ws, hcb, _, _, _, _, _, hall⟩ := h
  obtain ⟨_, o, h1⟩ := hall 0 (by omega)
  rcases h1 with ⟨_, hv, hc⟩ | ⟨h, _⟩
  case inr => exact absurd h (by omega)
  obtain ⟨v0, wr, rfl⟩ : ∃ v r, ws = v :: r := by
    cases ws with
    | nil => exact absurd hcb.2.2 (by simp)
    | cons v r => exact ⟨v, r, rfl⟩
  have hv' : v0 = .iface 141 (.pointer (some ⟨o, 0, none⟩)) := by simpa using hv
  subst hv'
  have c2 := cell_of_block hcb.1 2 _ rfl
  have d0 := cell_of_block hcb.2.1 0 (.iface 141 (.pointer (some ⟨o, 0, none⟩))) (by simp)
  have HC := Lib.hid hc
  have hn0 : ¬ (0 : Int) ≥ (n : Int) + 1 := by omega
  have hn1 : (0 : Int) < (n : Int) + 1 := by omega
  clear hv hc hall hcb
  go_enter Tryz.func99, Tryz.ntmps99
  go_wp2
  go_end0
  go_wp2
  go_ret
  exact ⟨o, _, rfl, HC.out, rfl⟩

def evV (k a b id : Int) (ps nm cp mm mk tt cl : Value) : Value := .agg #[.int .i64 k, .int .i64 a, .int .i64 b, .int .i64 id, ps, nm, cp, mm, mk, tt, cl]
/-- Nothing to send. -/
theorem send_none (p : Nat) (w : World) : Calls Tryz.prog 98 #[.pointer (some ⟨p, 0, none⟩), .slice none 0 0] w fun e w' => e = .returned (.tuple #[]) ∧ w' = w := by
  go_enter Tryz.func98, Tryz.ntmps98
  go_wp2
  refine wp_loop_rounds 1 ?_
  rw [rounds_succ]
  go_wp2
  go_end0
  exact ⟨rfl, rfl⟩
theorem CellK.below {B : Nat} {w w' : World} {c wa p n k : Nat} {mode : Int} {ts : List Nat} (h : CellK B w c wa p n mode k ts) (hb : Below w.heap.size w w') : CellK B w' c wa p n mode k ts := by
  obtain ⟨u, ws, h1, h2, h3, h4, h5, h6, h7⟩ := h
  exact ⟨u, ws, h1.below hb, h2, h3, h4.below hb, h5, own_below h6 hb, fun i hi => ⟨(h7 i hi).1.below hb, (h7 i hi).2.kp (Kp.of_below hb)⟩⟩
theorem CellK.post {B : Nat} {w : World} {c wa p n k : Nat} {mode : Int} {ts : List Nat} (h : CellK B w c wa p n mode k ts) : w.cell? ⟨c, 3, none⟩ = some (.pointer (some ⟨p, 0, none⟩)) := by
  obtain ⟨u, ws, h1, _⟩ := h
  exact cell_of_block h1.1 3 _ rfl
set_option maxHeartbeats 4000000 in
set_option maxRecDepth 100000 in
theorem done_tick (B : Nat) (w : World) (c wa p n : Nat) (mode : Int) (ts : List Nat) (h : CellK B w c wa p n mode (n + 1) ts) (b id : Int) (g : Nat) (s : ByteArray) (x y : Int) (cl : Bool) (a1 a2 a3 : Option Addr) (l1 l2 l3 c1 c2 c3 : Nat) :
    Calls Tryz.prog 59 #[.pointer (some ⟨c, 0, none⟩), evV 9 0 b id (.slice a1 l1 c1) (.string s) (.int .i64 x) (.int .i64 y) (.slice a2 l2 c2) (.slice a3 l3 c3) (.bool cl)] w fun e w' => e = .returned (.int .i64 0) ∧ Below w.heap.size w w' := by
  have HH := Lib.hid h
  clear h
  unfold evV
  go_enter Tryz.func59, Tryz.ntmps59
  go_upto_region 21 with fail
  have hb1 : Below w.heap.size w (w.alloc (Obj.cells #[.int .i64 9, .int .i64 0, .int .i64 b, .int .i64 id, .slice a1 l1 c1, .string s, .int .i64 x, .int .i64 y, .slice a2 l2 c2, .slice a3 l3 c3, .bool cl] 33)) := below_alloc' (Below.refl _ _) _
  have hz := alloc_at w (Obj.cells #[.int .i64 9, .int .i64 0, .int .i64 b, .int .i64 id, .slice a1 l1 c1, .string s, .int .i64 x, .int .i64 y, .slice a2 l2 c2, .slice a3 l3 c3, .bool cl] 33)
  generalize World.alloc w _ = w1 at hb1 hz ⊢
  have hfacts : ∀ w6, Below w1.heap.size w1.drew w6 → w6.cell? ⟨c, 3, none⟩ = some (.pointer (some ⟨p, 0, none⟩)) ∧ w6.cell? ⟨w.heap.size, 1, none⟩ = some (.int .i64 0) ∧ CellK B w6 c wa p n mode (n + 1) ts := fun w6 h => by
    have hb : Below w1.heap.size w1 w6 := (Below.refl w1.heap.size w1).drew.trans h
    have k := (HH.out.below hb1).below hb
    exact ⟨k.post, cell_of_block (block_below hz hb) 1 _ rfl, k⟩
  have HF := Lib.hid hfacts
  have HB1 := Lib.hid hb1
  clear hb1 hz hfacts
  refine' Par.wp_region_pars (fun w w' => Below w.heap.size w w') 10 (by kernel_rfl) (by kernel_rfl) (by kernel_rfl) (by kernel_rfl) (by kernel_rfl) (by kernel_rfl)
    (fun w => Below.refl _ w) (fun h k => below_call h k) (fun vals => ?_)
  rotate_left
  simp only [List.take_succ_cons, List.take_zero, List.drop_succ_cons, List.drop_zero]
  iterate 3 (apply Par.par_x rfl; (focus (intro w6 hR hD K hK; replace hK := Lib.hid hK; skip; clear hR hD; go_simp; exact hK.out _ (Below.refl _ _))); simp only [Act.put, List.setIfInBounds_toArray, List.set_cons_zero, List.set_cons_succ, Nat.reduceAdd, List.cons_append, List.nil_append])
  (apply Par.par_x rfl; (focus (intro w6 hR hD K hK; replace hK := Lib.hid hK; obtain ⟨e0, e1, _⟩ := HF.out w6 hR; clear hR hD; go_simp; exact hK.out _ (Below.refl _ _))); simp only [Act.put, List.setIfInBounds_toArray, List.set_cons_zero, List.set_cons_succ, Nat.reduceAdd, List.cons_append, List.nil_append])
  iterate 2 (apply Par.par_x rfl; (focus (intro w6 hR hD K hK; replace hK := Lib.hid hK; skip; clear hR hD; go_simp; exact hK.out _ (Below.refl _ _))); simp only [Act.put, List.setIfInBounds_toArray, List.set_cons_zero, List.set_cons_succ, Nat.reduceAdd, List.cons_append, List.nil_append])
  (apply Par.par_x rfl; (focus (intro w6 hR hD K hK; replace hK := Lib.hid hK; obtain ⟨e0, e1, _⟩ := HF.out w6 hR; clear hR hD; go_simp; exact hK.out _ (Below.refl _ _))); simp only [Act.put, List.setIfInBounds_toArray, List.set_cons_zero, List.set_cons_succ, Nat.reduceAdd, List.cons_append, List.nil_append])
  (apply Par.par_r (fun v w' => ∃ o t, v = .iface 141 (.pointer (some ⟨o, 0, none⟩)) ∧ CoordE w' o n t) rfl (fun v w1 w2 h k => by obtain ⟨o, t, h1, h2⟩ := h; exact ⟨o, t, h1, h2.below k⟩); (focus (intro w6 hR hD K hK; replace hK := Lib.hid hK; obtain ⟨e0, e1, e2⟩ := HF.out w6 hR; clear hR hD e0 e1; go_simp; refine (up_zero B w6 c wa p n mode ts e2).mono ?_; rintro e w7 ⟨o, t, rfl, h1, rfl⟩; exact hK.out _ _ (Below.refl _ _) ⟨o, t, rfl, h1⟩)); simp only [Act.put, List.setIfInBounds_toArray, List.set_cons_zero, List.set_cons_succ, Nat.reduceAdd, List.cons_append, List.nil_append])
  (apply Par.par_x rfl; (focus (intro w6 hR hD K hK; replace hK := Lib.hid hK; obtain ⟨o, t, h1, h2⟩ : ∃ o t, vals 7 = .iface 141 (.pointer (some ⟨o, 0, none⟩)) ∧ CoordE w6 o n t := hD 7 (by kernel_rfl); simp only [h1] at hK ⊢; replace h2 := Lib.hid h2; clear hR hD h1; go_simp; refine (ctick_empty o t n w6 h2.out).mono ?_; rintro e w7 ⟨rfl, hb⟩; exact hK.out _ hb)); simp only [Act.put, List.setIfInBounds_toArray, List.set_cons_zero, List.set_cons_succ, Nat.reduceAdd, List.cons_append, List.nil_append])
  (apply Par.par_x rfl; (focus (intro w6 hR hD K hK; replace hK := Lib.hid hK; clear hR hD; go_simp; refine (send_none p w6).mono ?_; rintro e w7 ⟨rfl, rfl⟩; exact hK.out _ (Below.refl _ _))); simp only [Act.put, List.setIfInBounds_toArray, List.set_cons_zero, List.set_cons_succ, Nat.reduceAdd, List.cons_append, List.nil_append])
  refine Par.par_end fun w6 hR hp => ?_
  have HB6 := Lib.hid (HB1.out.trans (((Below.refl w1.heap.size w1).drew.trans hR).mono HB1.out.size))
  clear hR hp
  go_wp2
  go_ret
  exact ⟨rfl, HB6.out⟩
end Go.Proofs.YtikamehjeaoilaaGreatDoor
/-! A tick of the coordinator, answered. -/
set_option linter.unusedVariables false
set_option linter.unusedSimpArgs false
namespace Go.Proofs.YtikamehjeaoilaaGreatDoor
open Go.RowKit

theorem door_idle (p : Addr) (w : World) :
    CallsD Tryz.prog 58 #[.pointer (some p)] .returning w fun e u' w' => e = .returned (.tuple #[]) ∧ u' = .returning ∧ w' = w := by
  refine callsD_of_wpS Tryz.func58 rfl fun c₀ cs hu => ?_
  apply wpS_seq
  apply wpS_region
  simp [wpOpsS, go_sem, recoverD, hu, Tryz.ntmps58, Exit.thenS]
  refine wpS_of_wp ?_
  cases c₀
  go_wp2
  simp_all [bodyPostS, results, Tryz.results58]
set_option maxHeartbeats 4000000 in
set_option maxRecDepth 100000 in
theorem do_tick (B : Nat) (w : World) (c wa p n : Nat) (mode : Int) (ts : List Nat) (h : CellK B w c wa p n mode (n + 1) ts) (b id : Int) (s : ByteArray) (x y : Int) (cl : Bool) (a1 a2 a3 : Option Addr) (l1 l2 l3 c1 c2 c3 : Nat) :
    Calls Tryz.prog 30 #[.pointer (some ⟨c, 0, none⟩), evV 9 0 b id (.slice a1 l1 c1) (.string s) (.int .i64 x) (.int .i64 y) (.slice a2 l2 c2) (.slice a3 l3 c3) (.bool cl)] w fun e w' => e = .returned (.string ⟨#[111, 107]⟩) ∧ Below w.heap.size w w' := by
  have HH := Lib.hid h
  clear h
  unfold evV
  go_enter_defers Tryz.func30, Tryz.ntmps30
  go_wp2_with fail
  have hb2 : Below w.heap.size w ((w.alloc (Obj.cells #[.int .i64 9, .int .i64 0, .int .i64 b, .int .i64 id, .slice a1 l1 c1, .string s, .int .i64 x, .int .i64 y, .slice a2 l2 c2, .slice a3 l3 c3, .bool cl] 33)).alloc (Obj.cells #[.string { data := #[] }] 9)) := below_alloc' (below_alloc' (Below.refl _ _) _) _
  have hz : ((w.alloc (Obj.cells #[.int .i64 9, .int .i64 0, .int .i64 b, .int .i64 id, .slice a1 l1 c1, .string s, .int .i64 x, .int .i64 y, .slice a2 l2 c2, .slice a3 l3 c3, .bool cl] 33)).alloc (Obj.cells #[.string { data := #[] }] 9)).heap[w.heap.size + 1]? = some (.cells #[.string { data := #[] }] 9 (0, 0)) := alloc_second _ _ _
  generalize World.alloc (World.alloc w _) _ = w2 at hb2 hz ⊢
  refine (done_tick B w2 c wa p n mode ts (HH.out.below hb2) b id 0 s x y cl a1 a2 a3 l1 l2 l3 c1 c2 c3).mono ?_
  rintro e w3 ⟨rfl, hb3⟩
  have hz3 := block_below hz hb3
  have e0 := cell_of_block hz3 0 _ rfl
  have fr := free_of_block hz3 0
  have HZ := Lib.hid hz3
  have HB := Lib.hid (below_call hb2 hb3)
  clear hb2 hz hb3 hz3
  go_wp2
  have hb4 : Below w.heap.size w (w3.setCell ⟨w.heap.size + 1, 0, none⟩ (.string ⟨#[111, 107]⟩)) := HB.out.setCell (p := ⟨w.heap.size + 1, 0, none⟩) (Nat.le_succ _) _
  have r0 : (w3.setCell ⟨w.heap.size + 1, 0, none⟩ (.string ⟨#[111, 107]⟩)).cell? ⟨w.heap.size + 1, 0, none⟩ = some (.string ⟨#[111, 107]⟩) := cell_of_block (heap_setCell_same w3 _ 0 _ _ _ HZ.out) 0 _ rfl
  refine leaves_cons (f := 58) (args := #[.pointer (some ⟨w.heap.size + 1, 0, none⟩)]) (by simp) (by simp [go_sem]) ?_
  refine (door_idle ⟨w.heap.size + 1, 0, none⟩ _).mono ?_
  rintro e u' w'' ⟨rfl, rfl, rfl⟩
  simp [Leaves, settle, results, Tryz.results30, go_sem]
  rw [r0]
  exact ⟨_, rfl, rfl, hb4⟩
end Go.Proofs.YtikamehjeaoilaaGreatDoor
