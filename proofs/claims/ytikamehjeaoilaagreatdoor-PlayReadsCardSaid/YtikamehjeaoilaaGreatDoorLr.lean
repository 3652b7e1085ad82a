/- A node's line, read by the program. -/
import Derived.Test.YtikamehjeaoilaaGreatDoorLn
set_option linter.unusedVariables false
set_option linter.unusedSimpArgs false
namespace Go.Proofs.YtikamehjeaoilaaGreatDoor
open Go.RowKit

/-- A record of a node. -/
def RecAt (base : Nat) (w : World) (v : Value) (n : NodeL) : Prop :=
  ∃ u x, v = .agg #[.int .i64 1, .int .i64 0, .slice none 0 0, .slice none 0 0, .string (str n.name), .int .i64 n.cpu, .int .i64 n.mem, u, x, .bool n.closed] ∧ Strs base w u (n.marks.map str) ∧ Strs base w x (n.taints.map str)
def ReadPost (w : World) (n : NodeL) (b : Bool) (e : Ending) (w' : World) : Prop := ∃ v, e = .returned (.tuple #[v, .bool b]) ∧ RecAt w.heap.size w' v n ∧ Below w.heap.size w w'
theorem own_sets {base n size b : Nat} {e T : TypeId} {v : Value} {xs : List Value} (hT : T ≠ e) : ∀ (vs : List Value) (o : Nat) (w : World) (cs : Array Value), w.heap[b]? = some (.cells cs T (0, 0)) → w.ownsRow base e size v n xs → (w.setCells b o vs).ownsRow base e size v n xs
  | [], _, _, _, _, h => h
  | u :: r, o, w, cs, hb, h => own_sets hT r (o + 1) (w.setCell ⟨b, o, none⟩ u) _ (heap_setCell_same w b o cs T u hb) (own_set' h hb hT u)
theorem below_sets {B b : Nat} {a : World} (hb : B ≤ b) : ∀ (vs : List Value) (o : Nat) (w : World), Below B a w → Below B a (w.setCells b o vs)
  | [], _, _, h => h
  | u :: r, o, w, h => below_sets hb r (o + 1) _ (h.setCell (p := ⟨b, o, none⟩) hb u)
def laid (cs : Array Value) : Nat → List Value → Array Value
  | _, [] => cs
  | o, v :: r => laid (cs.setIfInBounds o v) (o + 1) r
theorem heap_setCells (g : Nat) (T : TypeId) : ∀ (vs : List Value) (o : Nat) (w : World) (cs : Array Value), w.heap[g]? = some (.cells cs T (0, 0)) → (w.setCells g o vs).heap[g]? = some (.cells (laid cs o vs) T (0, 0))
  | [], _, _, _, h => h
  | v :: r, o, w, cs, h => heap_setCells g T r (o + 1) _ _ (heap_setCell_same _ _ _ _ _ _ h)
theorem laid10 (x0 x1 x2 x3 x4 x5 x6 x7 x8 x9 y0 y1 y2 y3 y4 y5 y6 y7 y8 y9 : Value) : laid #[x0, x1, x2, x3, x4, x5, x6, x7, x8, x9] 0 [y0, y1, y2, y3, y4, y5, y6, y7, y8, y9] = #[y0, y1, y2, y3, y4, y5, y6, y7, y8, y9] := by simp [laid]
theorem sets10 {w : World} {b : Nat} {T : TypeId} {x0 x1 x2 x3 x4 x5 x6 x7 x8 x9 : Value} (y0 y1 y2 y3 y4 y5 y6 y7 y8 y9 : Value) (h : w.heap[b]? = some (.cells #[x0, x1, x2, x3, x4, x5, x6, x7, x8, x9] T (0, 0))) :
    (w.setCells b 0 [y0, y1, y2, y3, y4, y5, y6, y7, y8, y9]).heap[b]? = some (.cells #[y0, y1, y2, y3, y4, y5, y6, y7, y8, y9] T (0, 0)) := by
  rw [← laid10 x0 x1 x2 x3 x4 x5 x6 x7 x8 x9 y0 y1 y2 y3 y4 y5 y6 y7 y8 y9]
  exact heap_setCells b T [y0, y1, y2, y3, y4, y5, y6, y7, y8, y9] 0 w #[x0, x1, x2, x3, x4, x5, x6, x7, x8, x9] h
set_option maxRecDepth 1000000 in
set_option maxHeartbeats 8000000 in
theorem read_node (g : Nat) (s : List UInt8) (w : World) (ht : Tabs w) (h : Blk w g [[110, 111, 100, 101], s]) (hs : s.length ≤ 4294967280) :
    Calls Tryz.prog 112 #[.slice (some ⟨g, 0, none⟩) 2 2] w (ReadPost w (nodeX s).1 (!(nodeX s).2.2 && decide ((nodeX s).2.1 = []))) := by
  have HT := Lib.hid ht
  have H := Lib.hid h
  have hc0 : ∀ o, (w.alloc o).cell? ⟨g, 0, none⟩ = some (.string (str [110, 111, 100, 101])) := fun o => cell_below (h.cell (j := 0) (Nat.zero_lt_succ _)) (below_alloc' (Below.refl _ _) o)
  obtain ⟨x, hx⟩ : ∃ x, str [110, 111, 100, 101] = x := ⟨_, rfl⟩
  rw [hx] at hc0
  have HX := Lib.hid hx
  clear ht h hx
  go_enter Tryz.func112, Tryz.ntmps112
  go_wp2_with fail
  rw [← HX.out]
  refine (lkind_node _ (HT.out.below (below_alloc' (Below.refl _ _) _))).mono ?_
  rintro e w1 ⟨rfl, hb1⟩
  have hz1 : w.heap.size + 1 ≤ w1.heap.size := by have := hb1.size; simpa using this
  have B01 := Lib.hid (block_below (alloc_at w _) hb1)
  have HB1 := Lib.hid (below_call (below_alloc' (Below.refl _ _) _) hb1)
  have c0 := cell_of_block B01.out 0 _ rfl
  have f0 := fun j => free_of_block B01.out j
  have hg : g < w.heap.size := (Array.getElem?_eq_some_iff.1 H.out).1
  have hgn : g ≠ w.heap.size := by omega
  obtain ⟨y, hy⟩ : ∃ y, str s = y := ⟨_, rfl⟩
  have hc1 : w1.cell? ⟨g, 1, none⟩ = some (.string y) := by rw [← hy]; exact cell_below (H.out.cell (j := 1) (Nat.succ_lt_succ (Nat.zero_lt_succ _))) HB1.out
  have HY := Lib.hid hy
  clear hb1 hy hc0
  have B1 := Lib.hid (setAt (j := 0) (v := .int .i64 1) B01.out rfl)
  have q0 : ∀ o, ((w1.setCell ⟨w.heap.size, 0, none⟩ (.int .i64 1)).alloc o).cell? ⟨w.heap.size, 0, none⟩ = some (.int .i64 1) := fun o => cell_below (cell_of_block B1.out 0 _ rfl) (below_alloc' (Below.refl _ _) o)
  have hsz : (w1.setCell ⟨w.heap.size, 0, none⟩ (.int .i64 1)).heap.size = w1.heap.size := by simp [World.setCell]
  have HSZ := Lib.hid hsz
  clear hsz
  go_wp2_with fail
  have hr : RdAt ((w1.setCell ⟨w.heap.size, 0, none⟩ (.int .i64 1)).alloc (.cells #[.string y, .bool false] 245)) w1.heap.size s false := by
    have := alloc_at (w1.setCell ⟨w.heap.size, 0, none⟩ (.int .i64 1)) (.cells #[.string y, .bool false] 245)
    rw [HSZ.out, ← HY.out] at this
    rw [← HY.out]
    exact this
  refine (rd_node w1.heap.size s false _ hr hs).mono ?_
  rintro e w2 ⟨v, rfl, ⟨u, z, rfl, ou, oz⟩, h2, hg2⟩
  have hz2 : w1.heap.size + 1 ≤ w2.heap.size := by have := hg2.size; simp [World.setCell] at this; omega
  have B2 := Lib.hid (hg2.block' (block_below B1.out (below_alloc' (Below.refl _ _) _)) (show w.heap.size ≠ w1.heap.size by omega))
  have H2 := Lib.hid h2
  have HB2 : Hid (Below w.heap.size w w2) := Lib.hid (Gb.below ((HB1.out.setCell (p := ⟨w.heap.size, 0, none⟩) (Nat.le_refl _) _).alloc (by simp [World.setCell]; omega) _) hg2 (by omega) (by simp [World.setCell]; omega))
  have OU := Lib.hid (own_base ou (show w.heap.size ≤ _ by simp [World.setCell]; omega))
  have OZ := Lib.hid (own_base oz (show w.heap.size ≤ _ by simp [World.setCell]; omega))
  obtain ⟨au, lu, cu, rfl⟩ := own_slice ou
  obtain ⟨az, lz, cz, rfl⟩ := own_slice oz
  clear h2 hg2 ou oz hr q0 c0 f0 hc1
  have c0 := cell_of_block B2.out 0 _ rfl
  have c1 := cell_of_block B2.out 1 _ rfl
  have c2 := cell_of_block B2.out 2 _ rfl
  have c3 := cell_of_block B2.out 3 _ rfl
  have c4 := cell_of_block B2.out 4 _ rfl
  have c5 := cell_of_block B2.out 5 _ rfl
  have c6 := cell_of_block B2.out 6 _ rfl
  have c7 := cell_of_block B2.out 7 _ rfl
  have c8 := cell_of_block B2.out 8 _ rfl
  have c9 := cell_of_block B2.out 9 _ rfl
  have f2 := fun j => free_of_block B2.out j
  obtain ⟨n, hn⟩ : ∃ n, nodeX s = n := ⟨_, rfl⟩
  rw [hn] at OU OZ H2
  rw [hn]
  have HN := Lib.hid hn
  clear hn
  obtain ⟨nm, hnm⟩ : ∃ x, str n.1.name = x := ⟨_, rfl⟩
  have HNM := Lib.hid hnm
  rw [hnm]
  clear hnm
  have B4 := setAt (j := 4) (v := .string nm) B2.out rfl
  have B5 := setAt (j := 5) (v := .int .i64 n.1.cpu) B4 rfl
  have B6 := setAt (j := 6) (v := .int .i64 n.1.mem) B5 rfl
  have B7 := setAt (j := 7) (v := .slice au lu cu) B6 rfl
  have B8 := setAt (j := 8) (v := .slice az lz cz) B7 rfl
  have B9 := setAt (j := 9) (v := .bool n.1.closed) B8 rfl
  have h0g : w.heap.size ≠ w1.heap.size := by omega
  have H3 := Lib.hid ((((((H2.out.setOther h0g (j := 4) (.string nm)).setOther h0g (j := 5) (.int .i64 n.1.cpu)).setOther h0g (j := 6) (.int .i64 n.1.mem)).setOther h0g (j := 7) (.slice au lu cu)).setOther h0g (j := 8) (.slice az lz cz)).setOther h0g (j := 9) (.bool n.1.closed))
  have HB3 := Lib.hid ((((((HB2.out.setCell (p := ⟨w.heap.size, 4, none⟩) (Nat.le_refl _) (.string nm)).setCell (p := ⟨w.heap.size, 5, none⟩) (Nat.le_refl _) (.int .i64 n.1.cpu)).setCell (p := ⟨w.heap.size, 6, none⟩) (Nat.le_refl _) (.int .i64 n.1.mem)).setCell (p := ⟨w.heap.size, 7, none⟩) (Nat.le_refl _) (.slice au lu cu)).setCell (p := ⟨w.heap.size, 8, none⟩) (Nat.le_refl _) (.slice az lz cz)).setCell (p := ⟨w.heap.size, 9, none⟩) (Nat.le_refl _) (.bool n.1.closed))
  have own9 : ∀ {q : Value} {k : Nat} {xs : List Value}, w2.ownsRow w.heap.size 9 1 q k xs → World.ownsRow ((((((w2.setCell ⟨w.heap.size, 4, none⟩ (.string nm)).setCell ⟨w.heap.size, 5, none⟩ (.int .i64 n.1.cpu)).setCell ⟨w.heap.size, 6, none⟩ (.int .i64 n.1.mem)).setCell ⟨w.heap.size, 7, none⟩ (.slice au lu cu)).setCell ⟨w.heap.size, 8, none⟩ (.slice az lz cz)).setCell ⟨w.heap.size, 9, none⟩ (.bool n.1.closed)) w.heap.size 9 1 q k xs := fun ho =>
    own_set' (own_set' (own_set' (own_set' (own_set' (own_set' ho B2.out (by decide) _) B4 (by decide) _) B5 (by decide) _) B6 (by decide) _) B7 (by decide) _) B8 (by decide) _
  have OU3 := Lib.hid (own9 OU.out)
  have OZ3 := Lib.hid (own9 OZ.out)
  have B9H := Lib.hid B9
  clear B4 B5 B6 B7 B8 B9 own9
  go_wp2_with fail
  obtain ⟨W, hW⟩ : ∃ W, (((((w2.setCell ⟨w.heap.size, 4, none⟩ (.string nm)).setCell ⟨w.heap.size, 5, none⟩ (.int .i64 n.1.cpu)).setCell ⟨w.heap.size, 6, none⟩ (.int .i64 n.1.mem)).setCell ⟨w.heap.size, 7, none⟩ (.slice au lu cu)).setCell ⟨w.heap.size, 8, none⟩ (.slice az lz cz)).setCell ⟨w.heap.size, 9, none⟩ (.bool n.1.closed) = W := ⟨_, rfl⟩
  rw [hW] at H3 HB3 OU3 OZ3 B9H
  rw [hW]
  clear hW c0 c1 c2 c3 c4 c5 c6 c7 c8 c9 f2
  refine (rd_end w1.heap.size _ _ _ H3.out).mono ?_
  rintro e w4 ⟨rfl, rfl⟩
  have c0 := cell_of_block B9H.out 0 _ rfl
  have c1 := cell_of_block B9H.out 1 _ rfl
  have c2 := cell_of_block B9H.out 2 _ rfl
  have c3 := cell_of_block B9H.out 3 _ rfl
  have c4 := cell_of_block B9H.out 4 _ rfl
  have c5 := cell_of_block B9H.out 5 _ rfl
  have c6 := cell_of_block B9H.out 6 _ rfl
  have c7 := cell_of_block B9H.out 7 _ rfl
  have c8 := cell_of_block B9H.out 8 _ rfl
  have c9 := cell_of_block B9H.out 9 _ rfl
  have f2 := fun j => free_of_block B9H.out j
  obtain ⟨b, hb⟩ : ∃ b, (!(false || n.2.2) && decide (n.2.1 = [])) = b := ⟨_, rfl⟩
  have hb' : (!n.2.2 && decide (n.2.1 = [])) = b := by rw [← hb, Bool.false_or]
  have HBB := Lib.hid hb'
  rw [hb]
  clear hb hb'
  cases b with
  | false =>
    go_wp2
    have fb := sets10 (.int .i64 1) (.int .i64 0) (.slice none 0 0) (.slice none 0 0) (.string nm) (.int .i64 n.1.cpu) (.int .i64 n.1.mem) (.slice au lu cu) (.slice az lz cz) (.bool n.1.closed) B9H.out
    have gu := own_sets (b := w.heap.size) (by decide) [.int .i64 1, .int .i64 0, .slice none 0 0, .slice none 0 0, .string nm, .int .i64 n.1.cpu, .int .i64 n.1.mem, .slice au lu cu, .slice az lz cz, .bool n.1.closed] 0 W _ B9H.out OU3.out
    have gz := own_sets (b := w.heap.size) (by decide) [.int .i64 1, .int .i64 0, .slice none 0 0, .slice none 0 0, .string nm, .int .i64 n.1.cpu, .int .i64 n.1.mem, .slice au lu cu, .slice az lz cz, .bool n.1.closed] 0 W _ B9H.out OZ3.out
    have gb := below_sets (b := w.heap.size) (Nat.le_refl _) [.int .i64 1, .int .i64 0, .slice none 0 0, .slice none 0 0, .string nm, .int .i64 n.1.cpu, .int .i64 n.1.mem, .slice au lu cu, .slice az lz cz, .bool n.1.closed] 0 W HB3.out
    obtain ⟨W2, hW2⟩ : ∃ W2, ((((((((((W.setCell ⟨w.heap.size, 0, none⟩ (.int .i64 1)).setCell ⟨w.heap.size, 1, none⟩ (.int .i64 0)).setCell ⟨w.heap.size, 2, none⟩ (.slice none 0 0)).setCell ⟨w.heap.size, 3, none⟩ (.slice none 0 0)).setCell ⟨w.heap.size, 4, none⟩ (.string nm)).setCell ⟨w.heap.size, 5, none⟩ (.int .i64 n.1.cpu)).setCell ⟨w.heap.size, 6, none⟩ (.int .i64 n.1.mem)).setCell ⟨w.heap.size, 7, none⟩ (.slice au lu cu)).setCell ⟨w.heap.size, 8, none⟩ (.slice az lz cz)).setCell ⟨w.heap.size, 9, none⟩ (.bool n.1.closed)) = W2 := ⟨_, rfl⟩
    rw [show W.setCells w.heap.size 0 [.int .i64 1, .int .i64 0, .slice none 0 0, .slice none 0 0, .string nm, .int .i64 n.1.cpu, .int .i64 n.1.mem, .slice au lu cu, .slice az lz cz, .bool n.1.closed] = W2 from hW2] at fb gu gz gb
    rw [hW2]
    clear hW2
    have k0 := cell_of_block fb 0 _ rfl
    have k1 := cell_of_block fb 1 _ rfl
    have k2 := cell_of_block fb 2 _ rfl
    have k3 := cell_of_block fb 3 _ rfl
    have k4 := cell_of_block fb 4 _ rfl
    have k5 := cell_of_block fb 5 _ rfl
    have k6 := cell_of_block fb 6 _ rfl
    have k7 := cell_of_block fb 7 _ rfl
    have k8 := cell_of_block fb 8 _ rfl
    have k9 := cell_of_block fb 9 _ rfl
    refine bodyPost_ret (v := .tuple #[.agg #[.int .i64 1, .int .i64 0, .slice none 0 0, .slice none 0 0, .string nm, .int .i64 n.1.cpu, .int .i64 n.1.mem, .slice au lu cu, .slice az lz cz, .bool n.1.closed], .bool false]) (by simp [results, Tryz.results112, go_sem, k0, k1, k2, k3, k4, k5, k6, k7, k8, k9]) rfl ?_
    rw [HN.out, HBB.out]
    exact ⟨_, rfl, ⟨.slice au lu cu, .slice az lz cz, by rw [HNM.out], gu, gz⟩, gb⟩
  | true =>
    go_wp2
    have fb := sets10 (.int .i64 1) (.int .i64 0) (.slice none 0 0) (.slice none 0 0) (.string nm) (.int .i64 n.1.cpu) (.int .i64 n.1.mem) (.slice au lu cu) (.slice az lz cz) (.bool n.1.closed) B9H.out
    have gu := own_sets (b := w.heap.size) (by decide) [.int .i64 1, .int .i64 0, .slice none 0 0, .slice none 0 0, .string nm, .int .i64 n.1.cpu, .int .i64 n.1.mem, .slice au lu cu, .slice az lz cz, .bool n.1.closed] 0 W _ B9H.out OU3.out
    have gz := own_sets (b := w.heap.size) (by decide) [.int .i64 1, .int .i64 0, .slice none 0 0, .slice none 0 0, .string nm, .int .i64 n.1.cpu, .int .i64 n.1.mem, .slice au lu cu, .slice az lz cz, .bool n.1.closed] 0 W _ B9H.out OZ3.out
    have gb := below_sets (b := w.heap.size) (Nat.le_refl _) [.int .i64 1, .int .i64 0, .slice none 0 0, .slice none 0 0, .string nm, .int .i64 n.1.cpu, .int .i64 n.1.mem, .slice au lu cu, .slice az lz cz, .bool n.1.closed] 0 W HB3.out
    obtain ⟨W2, hW2⟩ : ∃ W2, ((((((((((W.setCell ⟨w.heap.size, 0, none⟩ (.int .i64 1)).setCell ⟨w.heap.size, 1, none⟩ (.int .i64 0)).setCell ⟨w.heap.size, 2, none⟩ (.slice none 0 0)).setCell ⟨w.heap.size, 3, none⟩ (.slice none 0 0)).setCell ⟨w.heap.size, 4, none⟩ (.string nm)).setCell ⟨w.heap.size, 5, none⟩ (.int .i64 n.1.cpu)).setCell ⟨w.heap.size, 6, none⟩ (.int .i64 n.1.mem)).setCell ⟨w.heap.size, 7, none⟩ (.slice au lu cu)).setCell ⟨w.heap.size, 8, none⟩ (.slice az lz cz)).setCell ⟨w.heap.size, 9, none⟩ (.bool n.1.closed)) = W2 := ⟨_, rfl⟩
    rw [show W.setCells w.heap.size 0 [.int .i64 1, .int .i64 0, .slice none 0 0, .slice none 0 0, .string nm, .int .i64 n.1.cpu, .int .i64 n.1.mem, .slice au lu cu, .slice az lz cz, .bool n.1.closed] = W2 from hW2] at fb gu gz gb
    rw [hW2]
    clear hW2
    have k0 := cell_of_block fb 0 _ rfl
    have k1 := cell_of_block fb 1 _ rfl
    have k2 := cell_of_block fb 2 _ rfl
    have k3 := cell_of_block fb 3 _ rfl
    have k4 := cell_of_block fb 4 _ rfl
    have k5 := cell_of_block fb 5 _ rfl
    have k6 := cell_of_block fb 6 _ rfl
    have k7 := cell_of_block fb 7 _ rfl
    have k8 := cell_of_block fb 8 _ rfl
    have k9 := cell_of_block fb 9 _ rfl
    refine bodyPost_ret (v := .tuple #[.agg #[.int .i64 1, .int .i64 0, .slice none 0 0, .slice none 0 0, .string nm, .int .i64 n.1.cpu, .int .i64 n.1.mem, .slice au lu cu, .slice az lz cz, .bool n.1.closed], .bool true]) (by simp [results, Tryz.results112, go_sem, k0, k1, k2, k3, k4, k5, k6, k7, k8, k9]) rfl ?_
    rw [HN.out, HBB.out]
    exact ⟨_, rfl, ⟨.slice au lu cu, .slice az lz cz, by rw [HNM.out], gu, gz⟩, gb⟩
end Go.Proofs.YtikamehjeaoilaaGreatDoor
