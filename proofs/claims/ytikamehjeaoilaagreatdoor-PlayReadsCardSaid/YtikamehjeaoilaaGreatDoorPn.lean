/- A node's word, by play. -/
import Derived.Test.YtikamehjeaoilaaGreatDoorLq
import Derived.Test.YtikamehjeaoilaaGreatDoorSe
set_option linter.unusedVariables false
set_option linter.unusedSimpArgs false
namespace Go.Proofs.YtikamehjeaoilaaGreatDoor
open Go.RowKit

theorem has_not {c : UInt8} {s : List UInt8} (h : c ∉ s) : Lib.contains s [c] = false := by
  unfold Lib.contains
  rcases index_byte c s with ⟨h1, _⟩ | ⟨i, _, _, h3, _⟩
  · rw [h1]; rfl
  · exact absurd h3 h
theorem no_blank (s : List UInt8) (h : (32 : UInt8) ∉ s) (w : World) (ht : Tabs w) (hs : s.length ≤ 4294967280) : Calls Tryz.prog 69 #[.string (str s), .string ⟨#[32]⟩] w fun e w' => e = .returned (.bool false) ∧ w = w' := by
  obtain ⟨m, hm⟩ := ht.2.2
  refine (Tryz.strings_Contains (str s) ⟨#[32]⟩ m w (by rw [str_size]; omega) hm).mono ?_
  rintro e w' ⟨rfl, rfl⟩
  exact ⟨ret_bool (by rw [str_data]; exact has_not h), rfl⟩
theorem laid6 (x0 x1 x2 x3 x4 x5 y0 y1 y2 y3 y4 y5 : Value) : laid #[x0, x1, x2, x3, x4, x5] 0 [y0, y1, y2, y3, y4, y5] = #[y0, y1, y2, y3, y4, y5] := by simp [laid]
theorem sets6 {w : World} {b : Nat} {T : TypeId} {x0 x1 x2 x3 x4 x5 : Value} (y0 y1 y2 y3 y4 y5 : Value) (h : w.heap[b]? = some (.cells #[x0, x1, x2, x3, x4, x5] T (0, 0))) : (w.setCells b 0 [y0, y1, y2, y3, y4, y5]).heap[b]? = some (.cells #[y0, y1, y2, y3, y4, y5] T (0, 0)) := by
  rw [← laid6 x0 x1 x2 x3 x4 x5 y0 y1 y2 y3 y4 y5]
  exact heap_setCells b T [y0, y1, y2, y3, y4, y5] 0 w #[x0, x1, x2, x3, x4, x5] h
/-- Nothing below block N changes. -/
def LowB (N : Nat) (w w' : World) : Prop := N ≤ w.heap.size → Below N w w'
theorem LowB.refl (N : Nat) (w : World) : LowB N w w := fun _ => Below.refl _ _
theorem LowB.trans {N : Nat} {a b c : World} (h : LowB N a b) (k : LowB N b c) : LowB N a c := fun hN => (h hN).trans (k (Nat.le_trans hN (h hN).size))
theorem LowB.of_below {N : Nat} {w w' : World} (h : Below w.heap.size w w') : LowB N w w' := fun hN => h.mono hN
theorem LowB.of_sets {N b : Nat} (hb : True → N ≤ b) (vs : List Value) (o : Nat) (w : World) : LowB N w (w.setCells b o vs) := fun _ => below_sets (hb trivial) vs o w (Below.refl _ _)
def RecK (kd : Int) (base : Nat) (w : World) (v : Value) (n : NodeL) : Prop :=
  ∃ u x, v = .agg #[.int .i64 kd, .int .i64 0, .slice none 0 0, .slice none 0 0, .string (str n.name), .int .i64 n.cpu, .int .i64 n.mem, u, x, .bool n.closed] ∧ Strs base w u (n.marks.map str) ∧ Strs base w x (n.taints.map str)
theorem parse_k (s : List UInt8) (w : World) (ht : Tabs w) (hs : s.length ≤ 4294967000) (h32 : (32 : UInt8) ∉ s) :
    Calls Tryz.prog 68 #[.string (str ([110, 111, 100, 101, 32] ++ s))] w fun e w' => ∃ (kd k : Int) (n : NodeL) (v : Value), e = .returned (.tuple #[v, .int .i64 k]) ∧ RecK kd w.heap.size w' v n ∧ Below w.heap.size w w' ∧ (nodeW s = some n ∧ k = 0 ∨ nodeW s = none ∧ k ≠ 0) := by
  refine (parse_node s w ht hs h32).mono ?_
  rintro e w1 (⟨n, v, hn, rfl, hr, hb⟩ | ⟨k, hk, hn, rfl, hb⟩)
  · exact ⟨1, 0, n, v, rfl, hr, hb, .inl ⟨hn, rfl⟩⟩
  · exact ⟨0, k, noNode, zeroRec, rfl, ⟨.slice none 0 0, .slice none 0 0, rfl, World.ownsRow_nil _ _ _ _, World.ownsRow_nil _ _ _ _⟩, hb, .inr ⟨hn, hk⟩⟩
def PNodePost (s : List UInt8) (w : World) (e : Ending) (w' : World) : Prop :=
  ∃ v n, e = .returned (.tuple #[v, .bool (nodeW s).isSome]) ∧ NodeAt w.heap.size w' v n ∧ (∀ m, nodeW s = some m → n = m) ∧ Below w.heap.size w w'
set_option maxRecDepth 1000000 in
set_option maxHeartbeats 8000000 in
theorem pnode_any (s : List UInt8) (w : World) (ht : Tabs w) (hs : s.length ≤ 4294967000) (h32 : (32 : UInt8) ∉ s) : Calls Tryz.prog 44 #[.string (str s)] w (PNodePost s w) := by
  have HT := Lib.hid ht
  have e0 : (⟨#[110, 111, 100, 101, 32]⟩ : ByteArray) ++ str s = str ([110, 111, 100, 101, 32] ++ s) := str_append [110, 111, 100, 101, 32] s
  have hsz : (str s).size = s.length := str_size s
  have hsz5 : (⟨#[110, 111, 100, 101, 32]⟩ : ByteArray).size = 5 := rfl
  clear ht
  go_enter Tryz.func44, Tryz.ntmps44
  go_wp2_with fail
  clear e0 hsz hsz5
  refine (parse_k s _ (HT.out.below (below_alloc' (Below.refl _ _) _)) hs h32).mono ?_
  rintro e w1 ⟨kd, k, n, v, rfl, ⟨u, x, rfl, ou, ox⟩, hb1, hcase⟩
  have B1 := Lib.hid (block_below (alloc_at w _) hb1)
  have HB1 := Lib.hid (below_call (below_alloc' (Below.refl _ _) _) hb1)
  have hz1 : w.heap.size + 1 ≤ w1.heap.size := by have := hb1.size; simpa using this
  have OU := Lib.hid (own_base ou (show w.heap.size ≤ _ by simp))
  have OX := Lib.hid (own_base ox (show w.heap.size ≤ _ by simp))
  obtain ⟨au, lu, cu, rfl⟩ := own_slice ou
  obtain ⟨ax, lx, cx, rfl⟩ := own_slice ox
  have HCA := Lib.hid hcase
  obtain ⟨nm, hnm⟩ : ∃ y, str n.name = y := ⟨_, rfl⟩
  have HNM := Lib.hid hnm
  rw [hnm]
  clear hb1 ou ox hnm hcase
  have PREW := Lib.hid (show (fun w3 => w3.heap[w1.heap.size]? = some (Obj.cells #[.int .i64 kd, .int .i64 0, .slice none 0 0, .slice none 0 0, .string nm, .int .i64 n.cpu, .int .i64 n.mem, .slice au lu cu, .slice ax lx cx, .bool n.closed] 118 (0, 0)) ∧ Tabs w3 ∧ w3.heap[w.heap.size]? = some (Obj.cells #[.string ⟨#[]⟩, .int .i64 0, .int .i64 0, .slice none 0 0, .slice none 0 0, .bool false] 31 (0, 0)) ∧ w3.ownsRow w.heap.size 9 1 (.slice au lu cu) (n.marks.map str).length ((n.marks.map str).map Value.string) ∧ w3.ownsRow w.heap.size 9 1 (.slice ax lx cx) (n.taints.map str).length ((n.taints.map str).map Value.string)) (w1.alloc (.cells #[.int .i64 kd, .int .i64 0, .slice none 0 0, .slice none 0 0, .string nm, .int .i64 n.cpu, .int .i64 n.mem, .slice au lu cu, .slice ax lx cx, .bool n.closed] 118)).drew from
    ⟨alloc_at w1 _, (HT.out.below HB1.out).below (below_alloc' (Below.refl _ _) _).drew, block_below B1.out (below_alloc' (Below.refl _ _) _).drew, own_drew (World.ownsRow.alloc OU.out _), own_drew (World.ownsRow.alloc OX.out _)⟩)
  have HBW := Lib.hid (HB1.out.alloc HB1.out.size (.cells #[.int .i64 kd, .int .i64 0, .slice none 0 0, .slice none 0 0, .string nm, .int .i64 n.cpu, .int .i64 n.mem, .slice au lu cu, .slice ax lx cx, .bool n.closed] 118))
  by_cases hk : k = 0
  · subst hk
    have HSOME := Lib.hid (show nodeW s = some n from (HCA.out.resolve_right fun h => h.2 rfl).1)
    have kk : ((0 : Int) == 0) = true := rfl
    go_upto_region 2 with fail
    refine' Se.wp_region_pass (fun w w' => Below w.heap.size w w') (LowB w.heap.size) 10 (by kernel_rfl) (by kernel_rfl) (by kernel_rfl) (by kernel_rfl) (by kernel_rfl) (by kernel_rfl)
      (fun w => LowB.refl _ _) (fun h k => LowB.trans h k) [(fun w3 => w3.heap[w1.heap.size]? = some (Obj.cells #[.int .i64 kd, .int .i64 0, .slice none 0 0, .slice none 0 0, .string nm, .int .i64 n.cpu, .int .i64 n.mem, .slice au lu cu, .slice ax lx cx, .bool n.closed] 118 (0, 0)) ∧ Tabs w3 ∧ w3.heap[w.heap.size]? = some (Obj.cells #[.string ⟨#[]⟩, .int .i64 0, .int .i64 0, .slice none 0 0, .slice none 0 0, .bool false] 31 (0, 0)) ∧ w3.ownsRow w.heap.size 9 1 (.slice au lu cu) (n.marks.map str).length ((n.marks.map str).map Value.string) ∧ w3.ownsRow w.heap.size 9 1 (.slice ax lx cx) (n.taints.map str).length ((n.taints.map str).map Value.string), 9)] [] ?_ ?_ (by simp) (fun vals => ?_)
    case refine'_2 =>
      intro e he
      obtain rfl := List.mem_singleton.1 he
      exact PREW.out
    case refine'_3 =>
      intro e he w1' w2' k h
      obtain rfl := List.mem_singleton.1 he
      exact ⟨block_below h.1 k, h.2.1.below k, block_below h.2.2.1 k, own_below h.2.2.2.1 k, own_below h.2.2.2.2 k⟩
    rotate_left
    simp only [List.take_succ_cons, List.take_zero, List.drop_succ_cons, List.drop_zero]
    (apply Se.pas_x (fun _ _ h => LowB.of_below h) rfl; (focus rfl); (focus (intro w6 hR hD hP K hK; replace hK := Lib.hid hK; skip; clear hR hD hP; go_simp; exact hK.out _ (Below.refl _ _))); simp only [Act.put, List.setIfInBounds_toArray, List.set_cons_zero, List.set_cons_succ, Nat.reduceAdd, List.cons_append, List.nil_append])
    (apply Se.pas_x (fun _ _ h => LowB.of_below h) rfl; (focus rfl); (focus (intro w6 hR hD hP K hK; replace hK := Lib.hid hK; have hq := (hP _ (List.mem_cons_self ..) (.inr (by kernel_rfl))).1; have e0 := cell_of_block hq 4 _ rfl; have e1 := cell_of_block hq 5 _ rfl; have e2 := cell_of_block hq 6 _ rfl; have e3 := cell_of_block hq 7 _ rfl; have e4 := cell_of_block hq 8 _ rfl; have e5 := cell_of_block hq 9 _ rfl; clear hR hD hP hq; go_simp; exact hK.out _ (Below.refl _ _))); simp only [Act.put, List.setIfInBounds_toArray, List.set_cons_zero, List.set_cons_succ, Nat.reduceAdd, List.cons_append, List.nil_append])
    iterate 3 (apply Se.pas_x (fun _ _ h => LowB.of_below h) rfl; (focus rfl); (focus (intro w6 hR hD hP K hK; replace hK := Lib.hid hK; skip; clear hR hD hP; go_simp; exact hK.out _ (Below.refl _ _))); simp only [Act.put, List.setIfInBounds_toArray, List.set_cons_zero, List.set_cons_succ, Nat.reduceAdd, List.cons_append, List.nil_append])
    (apply Se.pas_g (fun _ _ h => LowB.of_below h); (focus rfl); (focus (intro w6 hR hD hP K hK; replace hK := Lib.hid hK; skip; clear hR hD hP; go_simp; exact hK.out _ (Below.refl _ _))); simp only [Act.put, List.setIfInBounds_toArray, List.set_cons_zero, List.set_cons_succ, Nat.reduceAdd, List.cons_append, List.nil_append])
    (apply Se.pas_g (fun _ _ h => LowB.of_below h); (focus rfl); (focus (intro w6 hR hD hP K hK; replace hK := Lib.hid hK; have hT := (hP _ (List.mem_cons_self ..) (.inr (by kernel_rfl))).2.1; have HTT := Lib.hid hT; clear hR hD hP hT; go_simp; refine (no_blank s h32 w6 HTT.out (by omega)).mono ?_; rintro e w' ⟨rfl, rfl⟩; exact hK.out _ (Below.refl _ _))); simp only [Act.put, List.setIfInBounds_toArray, List.set_cons_zero, List.set_cons_succ, Nat.reduceAdd, List.cons_append, List.nil_append])
    (apply Se.pas_g (fun _ _ h => LowB.of_below h); (focus rfl); (focus (intro w6 hR hD hP K hK; replace hK := Lib.hid hK; skip; clear hR hD hP; go_simp; exact hK.out _ (Below.refl _ _))); simp only [Act.put, List.setIfInBounds_toArray, List.set_cons_zero, List.set_cons_succ, Nat.reduceAdd, List.cons_append, List.nil_append])
    (apply Se.pas_x (fun _ _ h => LowB.of_below h) rfl; (focus rfl); (focus (intro w6 hR hD hP K hK; replace hK := Lib.hid hK; skip; clear hR hD hP; go_simp; exact hK.out _ (Below.refl _ _))); simp only [Act.put, List.setIfInBounds_toArray, List.set_cons_zero, List.set_cons_succ, Nat.reduceAdd, List.cons_append, List.nil_append])
    (apply Se.pas_s (LowB w.heap.size) (fun _ w3 => w3.heap[w.heap.size]? = some (Obj.cells #[.string nm, .int .i64 n.cpu, .int .i64 n.mem, .slice au lu cu, .slice ax lx cx, .bool n.closed] 31 (0, 0)) ∧ w3.ownsRow w.heap.size 9 1 (.slice au lu cu) (n.marks.map str).length ((n.marks.map str).map Value.string) ∧ w3.ownsRow w.heap.size 9 1 (.slice ax lx cx) (n.taints.map str).length ((n.taints.map str).map Value.string)) (fun _ _ h => h) rfl (fun v w1 w2 h k => ⟨block_below h.1 k, own_below h.2.1 k, own_below h.2.2 k⟩); (focus rfl); (focus (intro w6 hR hD hP K hK; replace hK := Lib.hid hK; have hq := hP _ (List.mem_cons_self ..) (.inl rfl); have g0 := cell_of_block hq.2.2.1 0 _ rfl; have g1 := cell_of_block hq.2.2.1 1 _ rfl; have g2 := cell_of_block hq.2.2.1 2 _ rfl; have g3 := cell_of_block hq.2.2.1 3 _ rfl; have g4 := cell_of_block hq.2.2.1 4 _ rfl; have g5 := cell_of_block hq.2.2.1 5 _ rfl; have ff := fun j => free_of_block hq.2.2.1 j; have HQ := Lib.hid hq; clear hR hD hP hq; go_simp; exact hK.out undef _ (LowB.of_sets (b := w.heap.size) (fun _ => Nat.le_refl _) [.string nm, .int .i64 n.cpu, .int .i64 n.mem, .slice au lu cu, .slice ax lx cx, .bool n.closed] 0 w6) ⟨sets6 (.string nm) (.int .i64 n.cpu) (.int .i64 n.mem) (.slice au lu cu) (.slice ax lx cx) (.bool n.closed) HQ.out.2.2.1, own_sets (b := w.heap.size) (by decide) [.string nm, .int .i64 n.cpu, .int .i64 n.mem, .slice au lu cu, .slice ax lx cx, .bool n.closed] 0 w6 _ HQ.out.2.2.1 HQ.out.2.2.2.1, own_sets (b := w.heap.size) (by decide) [.string nm, .int .i64 n.cpu, .int .i64 n.mem, .slice au lu cu, .slice ax lx cx, .bool n.closed] 0 w6 _ HQ.out.2.2.1 HQ.out.2.2.2.2⟩)); simp only [Act.put, List.setIfInBounds_toArray, List.set_cons_zero, List.set_cons_succ, Nat.reduceAdd, List.cons_append, List.nil_append])
    refine Se.pas_ends (by simp [Se.AllK]) (by simp [Se.AllK]) fun w6 hR hp _ => ?_
    have h9 : w6.heap[w.heap.size]? = some (.cells #[.string nm, .int .i64 n.cpu, .int .i64 n.mem, .slice au lu cu, .slice ax lx cx, .bool n.closed] 31 (0, 0)) ∧ w6.ownsRow w.heap.size 9 1 (.slice au lu cu) (n.marks.map str).length ((n.marks.map str).map Value.string) ∧ w6.ownsRow w.heap.size 9 1 (.slice ax lx cx) (n.taints.map str).length ((n.taints.map str).map Value.string) := hp 9 (by simp)
    have H9 := Lib.hid h9
    have HB6 := Lib.hid (HBW.out.drew.trans (hR HBW.out.size))
    clear hp h9 hR
    go_wp2
    have k0 := cell_of_block H9.out.1 0 _ rfl
    have k1 := cell_of_block H9.out.1 1 _ rfl
    have k2 := cell_of_block H9.out.1 2 _ rfl
    have k3 := cell_of_block H9.out.1 3 _ rfl
    have k4 := cell_of_block H9.out.1 4 _ rfl
    have k5 := cell_of_block H9.out.1 5 _ rfl
    refine bodyPost_ret (v := .tuple #[.agg #[.string nm, .int .i64 n.cpu, .int .i64 n.mem, .slice au lu cu, .slice ax lx cx, .bool n.closed], .bool true]) (by simp [results, Tryz.results44, go_sem, k0, k1, k2, k3, k4, k5]) rfl ⟨_, n, by rw [HSOME.out]; rfl, ⟨.slice au lu cu, .slice ax lx cx, by rw [HNM.out], H9.out.2.1, H9.out.2.2⟩, (fun m hm => by rw [HSOME.out] at hm; exact Option.some.inj hm), HB6.out⟩
  · have HNONE := Lib.hid (show nodeW s = none from (HCA.out.resolve_left fun h => hk h.2).1)
    have kk : (k == 0) = false := beq_eq_false_iff_ne.2 hk
    go_upto_region 2 with fail
    refine' Se.wp_region_pass (fun w w' => Below w.heap.size w w') (LowB w.heap.size) 10 (by kernel_rfl) (by kernel_rfl) (by kernel_rfl) (by kernel_rfl) (by kernel_rfl) (by kernel_rfl)
      (fun w => LowB.refl _ _) (fun h k => LowB.trans h k) [(fun w3 => w3.heap[w1.heap.size]? = some (Obj.cells #[.int .i64 kd, .int .i64 0, .slice none 0 0, .slice none 0 0, .string nm, .int .i64 n.cpu, .int .i64 n.mem, .slice au lu cu, .slice ax lx cx, .bool n.closed] 118 (0, 0)) ∧ Tabs w3 ∧ w3.heap[w.heap.size]? = some (Obj.cells #[.string ⟨#[]⟩, .int .i64 0, .int .i64 0, .slice none 0 0, .slice none 0 0, .bool false] 31 (0, 0)) ∧ w3.ownsRow w.heap.size 9 1 (.slice au lu cu) (n.marks.map str).length ((n.marks.map str).map Value.string) ∧ w3.ownsRow w.heap.size 9 1 (.slice ax lx cx) (n.taints.map str).length ((n.taints.map str).map Value.string), 9)] [] ?_ ?_ (by simp) (fun vals => ?_)
    case refine'_2 =>
      intro e he
      obtain rfl := List.mem_singleton.1 he
      exact PREW.out
    case refine'_3 =>
      intro e he w1' w2' k h
      obtain rfl := List.mem_singleton.1 he
      exact ⟨block_below h.1 k, h.2.1.below k, block_below h.2.2.1 k, own_below h.2.2.2.1 k, own_below h.2.2.2.2 k⟩
    rotate_left
    simp only [List.take_succ_cons, List.take_zero, List.drop_succ_cons, List.drop_zero]
    (apply Se.pas_x (fun _ _ h => LowB.of_below h) rfl; (focus rfl); (focus (intro w6 hR hD hP K hK; replace hK := Lib.hid hK; skip; clear hR hD hP; go_simp; exact hK.out _ (Below.refl _ _))); simp only [Act.put, List.setIfInBounds_toArray, List.set_cons_zero, List.set_cons_succ, Nat.reduceAdd, List.cons_append, List.nil_append])
    (apply Se.pas_x (fun _ _ h => LowB.of_below h) rfl; (focus rfl); (focus (intro w6 hR hD hP K hK; replace hK := Lib.hid hK; have hq := (hP _ (List.mem_cons_self ..) (.inr (by kernel_rfl))).1; have e0 := cell_of_block hq 4 _ rfl; have e1 := cell_of_block hq 5 _ rfl; have e2 := cell_of_block hq 6 _ rfl; have e3 := cell_of_block hq 7 _ rfl; have e4 := cell_of_block hq 8 _ rfl; have e5 := cell_of_block hq 9 _ rfl; clear hR hD hP hq; go_simp; exact hK.out _ (Below.refl _ _))); simp only [Act.put, List.setIfInBounds_toArray, List.set_cons_zero, List.set_cons_succ, Nat.reduceAdd, List.cons_append, List.nil_append])
    iterate 3 (apply Se.pas_x (fun _ _ h => LowB.of_below h) rfl; (focus rfl); (focus (intro w6 hR hD hP K hK; replace hK := Lib.hid hK; skip; clear hR hD hP; go_simp; exact hK.out _ (Below.refl _ _))); simp only [Act.put, List.setIfInBounds_toArray, List.set_cons_zero, List.set_cons_succ, Nat.reduceAdd, List.cons_append, List.nil_append])
    iterate 3 (apply Se.pas_g (e := undef) (fun _ _ h => LowB.of_below h); (focus rfl); (focus (intro w6 hR hD hP K hK; replace hK := Lib.hid hK; clear hR hD hP; go_simp; exact hK.out _ (Below.refl _ _))); simp only [Act.put, List.setIfInBounds_toArray, List.set_cons_zero, List.set_cons_succ, Nat.reduceAdd, List.cons_append, List.nil_append])
    (apply Se.pas_x (fun _ _ h => LowB.of_below h) rfl; (focus rfl); (focus (intro w6 hR hD hP K hK; replace hK := Lib.hid hK; skip; clear hR hD hP; go_simp; exact hK.out _ (Below.refl _ _))); simp only [Act.put, List.setIfInBounds_toArray, List.set_cons_zero, List.set_cons_succ, Nat.reduceAdd, List.cons_append, List.nil_append])
    (apply Se.pas_s (LowB w.heap.size) (fun _ w3 => w3.heap[w.heap.size]? = some (Obj.cells #[.string nm, .int .i64 n.cpu, .int .i64 n.mem, .slice au lu cu, .slice ax lx cx, .bool n.closed] 31 (0, 0)) ∧ w3.ownsRow w.heap.size 9 1 (.slice au lu cu) (n.marks.map str).length ((n.marks.map str).map Value.string) ∧ w3.ownsRow w.heap.size 9 1 (.slice ax lx cx) (n.taints.map str).length ((n.taints.map str).map Value.string)) (fun _ _ h => h) rfl (fun v w1 w2 h k => ⟨block_below h.1 k, own_below h.2.1 k, own_below h.2.2 k⟩); (focus rfl); (focus (intro w6 hR hD hP K hK; replace hK := Lib.hid hK; have hq := hP _ (List.mem_cons_self ..) (.inl rfl); have g0 := cell_of_block hq.2.2.1 0 _ rfl; have g1 := cell_of_block hq.2.2.1 1 _ rfl; have g2 := cell_of_block hq.2.2.1 2 _ rfl; have g3 := cell_of_block hq.2.2.1 3 _ rfl; have g4 := cell_of_block hq.2.2.1 4 _ rfl; have g5 := cell_of_block hq.2.2.1 5 _ rfl; have ff := fun j => free_of_block hq.2.2.1 j; have HQ := Lib.hid hq; clear hR hD hP hq; go_simp; exact hK.out undef _ (LowB.of_sets (b := w.heap.size) (fun _ => Nat.le_refl _) [.string nm, .int .i64 n.cpu, .int .i64 n.mem, .slice au lu cu, .slice ax lx cx, .bool n.closed] 0 w6) ⟨sets6 (.string nm) (.int .i64 n.cpu) (.int .i64 n.mem) (.slice au lu cu) (.slice ax lx cx) (.bool n.closed) HQ.out.2.2.1, own_sets (b := w.heap.size) (by decide) [.string nm, .int .i64 n.cpu, .int .i64 n.mem, .slice au lu cu, .slice ax lx cx, .bool n.closed] 0 w6 _ HQ.out.2.2.1 HQ.out.2.2.2.1, own_sets (b := w.heap.size) (by decide) [.string nm, .int .i64 n.cpu, .int .i64 n.mem, .slice au lu cu, .slice ax lx cx, .bool n.closed] 0 w6 _ HQ.out.2.2.1 HQ.out.2.2.2.2⟩)); simp only [Act.put, List.setIfInBounds_toArray, List.set_cons_zero, List.set_cons_succ, Nat.reduceAdd, List.cons_append, List.nil_append])
    refine Se.pas_ends (by simp [Se.AllK]) (by simp [Se.AllK]) fun w6 hR hp _ => ?_
    have h9 : w6.heap[w.heap.size]? = some (.cells #[.string nm, .int .i64 n.cpu, .int .i64 n.mem, .slice au lu cu, .slice ax lx cx, .bool n.closed] 31 (0, 0)) ∧ w6.ownsRow w.heap.size 9 1 (.slice au lu cu) (n.marks.map str).length ((n.marks.map str).map Value.string) ∧ w6.ownsRow w.heap.size 9 1 (.slice ax lx cx) (n.taints.map str).length ((n.taints.map str).map Value.string) := hp 9 (by simp)
    have H9 := Lib.hid h9
    have HB6 := Lib.hid (HBW.out.drew.trans (hR HBW.out.size))
    clear hp h9 hR
    go_wp2
    have k0 := cell_of_block H9.out.1 0 _ rfl
    have k1 := cell_of_block H9.out.1 1 _ rfl
    have k2 := cell_of_block H9.out.1 2 _ rfl
    have k3 := cell_of_block H9.out.1 3 _ rfl
    have k4 := cell_of_block H9.out.1 4 _ rfl
    have k5 := cell_of_block H9.out.1 5 _ rfl
    refine bodyPost_ret (v := .tuple #[.agg #[.string nm, .int .i64 n.cpu, .int .i64 n.mem, .slice au lu cu, .slice ax lx cx, .bool n.closed], .bool false]) (by simp [results, Tryz.results44, go_sem, k0, k1, k2, k3, k4, k5]) rfl ⟨_, n, by rw [HNONE.out]; rfl, ⟨.slice au lu cu, .slice ax lx cx, by rw [HNM.out], H9.out.2.1, H9.out.2.2⟩, (fun m hm => by rw [HNONE.out] at hm; cases hm), HB6.out⟩
end Go.Proofs.YtikamehjeaoilaaGreatDoor
