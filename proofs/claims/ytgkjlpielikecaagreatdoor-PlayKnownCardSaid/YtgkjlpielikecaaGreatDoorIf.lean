/- A tick of the coordinator, answered. -/
import Derived.Test.YtgkjlpielikecaaGreatDoorIe
import Derived.Defers
import Derived.Recover
set_option linter.unusedVariables false
set_option linter.unusedSimpArgs false
namespace Go.Proofs.YtgkjlpielikecaaGreatDoor
open Go.RowKit

theorem door_idle (p : Addr) (w : World) :
    CallsD Tryz.prog 45 #[.pointer (some p)] .returning w fun e u' w' => e = .returned (.tuple #[]) ∧ u' = .returning ∧ w' = w := by
  refine callsD_of_wpS Tryz.func45 rfl fun c₀ cs hu => ?_
  apply wpS_seq
  apply wpS_region
  simp [wpOpsS, go_sem, recoverD, hu, Tryz.ntmps45, Exit.thenS]
  refine wpS_of_wp ?_
  cases c₀
  go_wp2
  simp_all [bodyPostS, results, Tryz.results45]
set_option maxHeartbeats 4000000 in
set_option maxRecDepth 100000 in
theorem do_tick (B : Nat) (w : World) (c wa p n : Nat) (mode : Int) (ts : List Nat) (h : CellK B w c wa p n mode (n + 1) ts) (b id : Int) (s : ByteArray) (x y : Int) (cl : Bool) (a1 a2 a3 : Option Addr) (l1 l2 l3 c1 c2 c3 : Nat) :
    Calls Tryz.prog 18 #[.pointer (some ⟨c, 0, none⟩), evV 9 0 b id (.slice a1 l1 c1) (.string s) (.int .i64 x) (.int .i64 y) (.slice a2 l2 c2) (.slice a3 l3 c3) (.bool cl)] w fun e w' => e = .returned (.string ⟨#[111, 107]⟩) ∧ Below w.heap.size w w' := by
  have HH := Lib.hid h
  clear h
  unfold evV
  go_enter_defers Tryz.func18, Tryz.ntmps18
  go_wp2_with fail
  have hb2 : Below w.heap.size w ((w.alloc (Obj.cells #[.int .i64 9, .int .i64 0, .int .i64 b, .int .i64 id, .slice a1 l1 c1, .string s, .int .i64 x, .int .i64 y, .slice a2 l2 c2, .slice a3 l3 c3, .bool cl] 38)).alloc (Obj.cells #[.string { data := #[] }] 9)) := below_alloc' (below_alloc' (Below.refl _ _) _) _
  have hz : ((w.alloc (Obj.cells #[.int .i64 9, .int .i64 0, .int .i64 b, .int .i64 id, .slice a1 l1 c1, .string s, .int .i64 x, .int .i64 y, .slice a2 l2 c2, .slice a3 l3 c3, .bool cl] 38)).alloc (Obj.cells #[.string { data := #[] }] 9)).heap[w.heap.size + 1]? = some (.cells #[.string { data := #[] }] 9 (0, 0)) := alloc_second _ _ _
  generalize World.alloc (World.alloc w _) _ = w2 at hb2 hz ⊢
  refine (done_tick B w2 c wa p n mode ts (HH.out.below hb2) b id 0 s x y cl a1 a2 a3 l1 l2 l3 c1 c2 c3).mono ?_
  rintro e w3 ⟨rfl, hb3⟩
  have hz3 := block_below hz hb3
  have e0 := cell_of_block hz3 0 _ rfl
  have fr := free_of_block hz3 0
  have HZ := Lib.hid hz3
  have HB := Lib.hid (below_call hb2 hb3)
  clear hb2 hz hb3 hz3
  go_wp2
  have hb4 : Below w.heap.size w (w3.setCell ⟨w.heap.size + 1, 0, none⟩ (.string ⟨#[111, 107]⟩)) := HB.out.setCell (p := ⟨w.heap.size + 1, 0, none⟩) (Nat.le_succ _) _
  have r0 : (w3.setCell ⟨w.heap.size + 1, 0, none⟩ (.string ⟨#[111, 107]⟩)).cell? ⟨w.heap.size + 1, 0, none⟩ = some (.string ⟨#[111, 107]⟩) := cell_of_block (heap_setCell_same w3 _ 0 _ _ _ HZ.out) 0 _ rfl
  refine leaves_cons (f := 45) (args := #[.pointer (some ⟨w.heap.size + 1, 0, none⟩)]) (by simp) (by simp [go_sem]) ?_
  refine (door_idle ⟨w.heap.size + 1, 0, none⟩ _).mono ?_
  rintro e u' w'' ⟨rfl, rfl, rfl⟩
  simp [Leaves, settle, results, Tryz.results18, go_sem]
  rw [r0]
  exact ⟨_, rfl, rfl, hb4⟩
end Go.Proofs.YtgkjlpielikecaaGreatDoor
