/- The program's reader of words: a node. -/
import Derived.Test.YtikamehjeaoilaaGreatDoorRf
set_option linter.unusedVariables false
set_option linter.unusedSimpArgs false
namespace Go.Proofs.YtikamehjeaoilaaGreatDoor
open Go.RowKit

/-- A node by value. -/
def NodeAt (base : Nat) (w : World) (v : Value) (n : NodeL) : Prop :=
  ∃ u x, v = .agg #[.string (str n.name), .int .i64 n.cpu, .int .i64 n.mem, u, x, .bool n.closed] ∧ Strs base w u (n.marks.map str) ∧ Strs base w x (n.taints.map str)
theorem NodeAt.below {base : Nat} {w w' : World} {v : Value} {n : NodeL} (h : NodeAt base w v n) (k : Below w.heap.size w w') : NodeAt base w' v n := by
  obtain ⟨u, x, e, h1, h2⟩ := h
  exact ⟨u, x, e, own_below h1 k, own_below h2 k⟩
def NodePost (g : Nat) (w : World) (n : NodeL) (l : List UInt8) (no : Bool) (e : Ending) (w' : World) : Prop := ∃ v, e = .returned v ∧ NodeAt w.heap.size w' v n ∧ RdAt w' g l no ∧ Gb g w w'
theorem own_apart {w : World} {base n size b : Nat} {e T : TypeId} {v : Value} {xs : List Value} {cs : Array Value} {fz : Nat × Nat} (h : w.ownsRow base e size v n xs) (hb : w.heap[b]? = some (.cells cs T fz)) (hT : T ≠ e) : v.ownBlock = none ∨ v.ownBlock ≠ some b := by
  rcases h.2 with ⟨rfl, _⟩ | ⟨g, cap, cur, rfl, _, hg, _⟩
  · exact .inl rfl
  · refine .inr fun e1 => ?_
    simp [Value.ownBlock] at e1
    subst e1
    rw [hg] at hb
    injection hb with hb
    injection hb with _ h2 _
    exact hT h2.symm
theorem own_set' {w : World} {base n size b j : Nat} {e T : TypeId} {v : Value} {xs : List Value} {cs : Array Value} {fz : Nat × Nat} (h : w.ownsRow base e size v n xs) (hb : w.heap[b]? = some (.cells cs T fz)) (hT : T ≠ e) (u : Value) : (w.setCell ⟨b, j, none⟩ u).ownsRow base e size v n xs :=
  own_setOther h u (own_apart h hb hT)
theorem own_slice {w : World} {base n size : Nat} {e : TypeId} {v : Value} {xs : List Value} (h : w.ownsRow base e size v n xs) : ∃ a l c, v = .slice a l c := by
  rcases own_forms h with ⟨rfl, _⟩ | ⟨g, cap, rfl, _⟩ <;> exact ⟨_, _, _, rfl⟩
theorem own_slicen {w : World} {base n size : Nat} {e : TypeId} {v : Value} {xs : List Value} (h : w.ownsRow base e size v n xs) : ∃ a c, v = .slice a n c := by
  rcases own_forms h with ⟨rfl, rfl, _⟩ | ⟨g, cap, rfl, _⟩ <;> exact ⟨_, _, rfl⟩
theorem setAt {w : World} {b j : Nat} {T : TypeId} {cs ds : Array Value} {v : Value} (h : w.heap[b]? = some (.cells cs T (0, 0))) (hd : cs.setIfInBounds j v = ds) : (w.setCell ⟨b, j, none⟩ v).heap[b]? = some (.cells ds T (0, 0)) := by
  rw [heap_setCell_same w b j cs T v h, hd]
theorem setFar {w : World} {b c j : Nat} {v : Value} {o : Obj} (h : w.heap[c]? = some o) (hne : c ≠ b) : (w.setCell ⟨b, j, none⟩ v).heap[c]? = some o := (Below.heap_setCell _ _ _ _ hne).trans h

theorem vecX_len (l : List UInt8) : (vecX l).2.1.length ≤ l.length := by
  have h1 := numX_len l
  have h2 := sign_le 44 (numX l).2.1
  have h3 := numX_len (pSign 44 (numX l).2.1).2
  show (numX (pSign 44 (numX l).2.1).2).2.1.length ≤ _
  omega
theorem rowX_len (c : UInt8) : ∀ k l, (rowX c k l).2.1.length ≤ l.length
  | 0, l => Nat.le_refl _
  | k + 1, l => by
    rw [rowX]
    split
    · have h1 := sign_le c l
      have h2 := nameX_len (pSign c l).2
      have h3 := rowX_len c k (nameX (pSign c l).2).2.1
      show (rowX c k (nameX (pSign c l).2).2.1).2.1.length ≤ _
      omega
    · exact Nat.le_refl _
set_option maxRecDepth 1000000 in
set_option maxHeartbeats 2000000 in
theorem rd_node (g : Nat) (l : List UInt8) (no : Bool) (w : World) (h : RdAt w g l no) (hl : l.length ≤ 4294967280) :
    Calls Tryz.prog 151 #[.pointer (some ⟨g, 0, none⟩)] w (NodePost g w (nodeX l).1 (nodeX l).2.1 (no || (nodeX l).2.2)) := by
  have hg : g < w.heap.size := (Array.getElem?_eq_some_iff.1 h).1
  have H := Lib.hid h
  have hl1 := nameX_len l
  have hl2 := sign_le 58 (nameX l).2.1
  clear h
  go_enter Tryz.func151, Tryz.ntmps151
  go_wp2_with fail
  refine (rd_name g l no _ (H.out.alloc _) hl).mono ?_
  rintro e w1 ⟨rfl, h1, hg1⟩
  have hz1 : w.heap.size + 1 ≤ w1.heap.size := by have := hg1.size; simpa using this
  have hb0 := hg1.block' (alloc_at w _) (show w.heap.size ≠ g by omega)
  have H1 := Lib.hid h1
  have G1 := Lib.hid ((Gb.refl g w).alloc _ |>.trans hg1)
  have B01 := Lib.hid hb0
  obtain ⟨nm, hnm⟩ : ∃ x, str (nameX l).1 = x := ⟨_, rfl⟩
  have HNM := Lib.hid hnm
  rw [hnm]
  clear h1 hg1 hb0 hnm
  go_wp2_with fail
  refine (rd_must g 58 _ _ _ (H1.out.alloc _)).mono ?_
  rintro e w2 ⟨rfl, h2, hg2⟩
  have hz2 : w1.heap.size + 1 ≤ w2.heap.size := by have := hg2.size; simpa using this
  have BV2 := Lib.hid (hg2.block' (alloc_at w1 _) (show w1.heap.size ≠ g by omega))
  have B02 := Lib.hid (hg2.block' (block_below B01.out (below_alloc' (Below.refl _ _) _)) (show w.heap.size ≠ g by omega))
  have H2 := Lib.hid h2
  have G2 := Lib.hid ((G1.out.alloc _).trans hg2)
  clear h2 hg2
  go_wp2_with fail
  refine (rd_vec g _ _ _ H2.out (by omega)).mono ?_
  rintro e w3 ⟨rfl, h3, hg3⟩
  have hz3 : w2.heap.size ≤ w3.heap.size := hg3.size
  have BV3 := Lib.hid (hg3.block' BV2.out (show w1.heap.size ≠ g by omega))
  have B03 := Lib.hid (hg3.block' B02.out (show w.heap.size ≠ g by omega))
  have H3 := Lib.hid h3
  have G3 := Lib.hid (G2.out.trans hg3)
  clear h3 hg3
  obtain ⟨v, hv⟩ : ∃ v, vecX (pSign 58 (nameX l).2.1).2 = v := ⟨_, rfl⟩
  have HV := Lib.hid hv
  rw [hv]
  rw [hv] at H3
  clear hv
  have c1 : w3.cell? ⟨w1.heap.size, 1, none⟩ = some (.int .i64 0) := cell_of_block BV3.out 1 _ rfl
  have c2 : w3.cell? ⟨w1.heap.size, 2, none⟩ = some (.int .i64 0) := cell_of_block BV3.out 2 _ rfl
  have f3 := fun j => free_of_block BV3.out j
  have hlv : v.2.1.length ≤ l.length := by rw [← HV.out]; have := vecX_len (pSign 58 (nameX l).2.1).2; omega
  have hbg : w1.heap.size ≠ g := by omega
  have h0g : w.heap.size ≠ g := by omega
  have h0v : w.heap.size ≠ w1.heap.size := by omega
  go_wp2_with fail
  refine (rd_signed g 43 _ _ _ ((H3.out.setOther hbg (j := 1) (.int .i64 v.1.1)).setOther hbg (j := 2) (.int .i64 v.1.2)) (by omega)).mono ?_
  rintro e w4 ⟨u, rfl, ou, h4, hg4⟩
  have BV4 := Lib.hid (hg4.block' (setAt (j := 2) (v := .int .i64 v.1.2) (setAt (j := 1) (v := .int .i64 v.1.1) BV3.out rfl) rfl) hbg)
  have B04 := Lib.hid (hg4.block' (setFar (j := 2) (v := .int .i64 v.1.2) (setFar (j := 1) (v := .int .i64 v.1.1) B03.out h0v) h0v) h0g)
  have H4 := Lib.hid h4
  have G4 := Lib.hid (((G3.out.setNew (show w.heap.size ≤ w1.heap.size by omega) (j := 1) (.int .i64 v.1.1)).setNew (show w.heap.size ≤ w1.heap.size by omega) (j := 2) (.int .i64 v.1.2)).trans hg4)
  have OU := Lib.hid (own_base ou (show w.heap.size ≤ _ by simp [World.setCell]; omega))
  obtain ⟨au, lu, cu, rfl⟩ := own_slice ou
  obtain ⟨a, ha⟩ : ∃ a, rowX 43 v.2.1.length v.2.1 = a := ⟨_, rfl⟩
  rw [ha] at OU H4
  have hla := rowX_len 43 v.2.1.length v.2.1
  rw [ha] at hla
  have HA := Lib.hid ha
  have hz4 : w3.heap.size ≤ w4.heap.size := by have := hg4.size; simpa [World.setCell] using this
  clear h4 hg4 ou ha c1 c2 f3
  have c3 : w4.cell? ⟨w1.heap.size, 3, none⟩ = some (.slice none 0 0) := cell_of_block BV4.out 3 _ rfl
  have f4 := fun j => free_of_block BV4.out j
  go_wp2_with fail
  refine (rd_signed g 126 _ _ _ (H4.out.setOther hbg (j := 3) (.slice au lu cu)) (by omega)).mono ?_
  rintro e w5 ⟨x, rfl, ox, h5, hg5⟩
  have BV5 := Lib.hid (hg5.block' (setAt (j := 3) (v := .slice au lu cu) BV4.out rfl) hbg)
  have B05 := Lib.hid (hg5.block' (setFar (j := 3) (v := .slice au lu cu) B04.out h0v) h0g)
  have H5 := Lib.hid h5
  have G5 := Lib.hid ((G4.out.setNew (show w.heap.size ≤ w1.heap.size by omega) (j := 3) (.slice au lu cu)).trans hg5)
  have OU5 := Lib.hid (own_gb (own_set' (j := 3) OU.out BV4.out (by decide) (.slice au lu cu)) hg5 hg)
  have OX := Lib.hid (own_base ox (show w.heap.size ≤ _ by simp [World.setCell]; omega))
  obtain ⟨ax, lx, cx, rfl⟩ := own_slice ox
  obtain ⟨b, hb⟩ : ∃ b, rowX 126 a.2.1.length a.2.1 = b := ⟨_, rfl⟩
  rw [hb] at OX H5
  have hlb := rowX_len 126 a.2.1.length a.2.1
  rw [hb] at hlb
  have HB := Lib.hid hb
  have hz5 : w4.heap.size ≤ w5.heap.size := by have := hg5.size; simpa [World.setCell] using this
  clear h5 hg5 ox hb c3 f4
  have c4 : w5.cell? ⟨w1.heap.size, 4, none⟩ = some (.slice none 0 0) := cell_of_block BV5.out 4 _ rfl
  have f5 := fun j => free_of_block BV5.out j
  go_wp2_with fail
  refine (rd_sign g 33 _ _ _ (H5.out.setOther hbg (j := 4) (.slice ax lx cx))).mono ?_
  rintro e w6 ⟨rfl, h6, hg6⟩
  have BV6 := Lib.hid (hg6.block' (setAt (j := 4) (v := .slice ax lx cx) BV5.out rfl) hbg)
  have B06 := Lib.hid (hg6.block' (setFar (j := 4) (v := .slice ax lx cx) B05.out h0v) h0g)
  have H6 := Lib.hid h6
  have G6 := Lib.hid ((G5.out.setNew (show w.heap.size ≤ w1.heap.size by omega) (j := 4) (.slice ax lx cx)).trans hg6)
  have OU6 := Lib.hid (own_gb (own_set' (j := 4) OU5.out BV5.out (by decide) (.slice ax lx cx)) hg6 hg)
  have OX6 := Lib.hid (own_gb (own_set' (j := 4) OX.out BV5.out (by decide) (.slice ax lx cx)) hg6 hg)
  clear h6 hg6 c4 f5
  obtain ⟨s, hs⟩ : ∃ s, (pSign 33 b.2.1).1 = s := ⟨_, rfl⟩
  have HS := Lib.hid hs
  rw [hs]
  clear hs
  have c0 : w6.cell? ⟨w1.heap.size, 0, none⟩ = some (.string nm) := cell_of_block BV6.out 0 _ rfl
  have c1 : w6.cell? ⟨w1.heap.size, 1, none⟩ = some (.int .i64 v.1.1) := cell_of_block BV6.out 1 _ rfl
  have c2 : w6.cell? ⟨w1.heap.size, 2, none⟩ = some (.int .i64 v.1.2) := cell_of_block BV6.out 2 _ rfl
  have c3 : w6.cell? ⟨w1.heap.size, 3, none⟩ = some (.slice au lu cu) := cell_of_block BV6.out 3 _ rfl
  have c4 : w6.cell? ⟨w1.heap.size, 4, none⟩ = some (.slice ax lx cx) := cell_of_block BV6.out 4 _ rfl
  have c5 : w6.cell? ⟨w1.heap.size, 5, none⟩ = some (.bool false) := cell_of_block BV6.out 5 _ rfl
  have d0 : w6.cell? ⟨w.heap.size, 0, none⟩ = some (.string ⟨#[]⟩) := cell_of_block B06.out 0 _ rfl
  have d1 : w6.cell? ⟨w.heap.size, 1, none⟩ = some (.int .i64 0) := cell_of_block B06.out 1 _ rfl
  have d2 : w6.cell? ⟨w.heap.size, 2, none⟩ = some (.int .i64 0) := cell_of_block B06.out 2 _ rfl
  have d3 : w6.cell? ⟨w.heap.size, 3, none⟩ = some (.slice none 0 0) := cell_of_block B06.out 3 _ rfl
  have d4 : w6.cell? ⟨w.heap.size, 4, none⟩ = some (.slice none 0 0) := cell_of_block B06.out 4 _ rfl
  have d5 : w6.cell? ⟨w.heap.size, 5, none⟩ = some (.bool false) := cell_of_block B06.out 5 _ rfl
  have f6 := fun j => free_of_block BV6.out j
  have f60 := fun j => free_of_block B06.out j
  have h0v' : w1.heap.size ≠ w.heap.size := by omega
  go_wp2
  have X5 := setFar (j := 5) (v := .bool s) B06.out h0v
  have fB := setAt (j := 5) (v := .bool s) (setAt (j := 4) (v := .slice ax lx cx) (setAt (j := 3) (v := .slice au lu cu) (setAt (j := 2) (v := .int .i64 v.1.2) (setAt (j := 1) (v := .int .i64 v.1.1) (setAt (j := 0) (v := .string nm) X5 rfl) rfl) rfl) rfl) rfl) rfl
  have k0 := cell_of_block fB 0 _ rfl
  have k1 := cell_of_block fB 1 _ rfl
  have k2 := cell_of_block fB 2 _ rfl
  have k3 := cell_of_block fB 3 _ rfl
  have k4 := cell_of_block fB 4 _ rfl
  have k5 := cell_of_block fB 5 _ rfl
  have own6 : ∀ {z : Value} {n : Nat} {xs : List Value}, w6.ownsRow w.heap.size 9 1 z n xs → World.ownsRow (((((((w6.setCell ⟨w1.heap.size, 5, none⟩ (.bool s)).setCell ⟨w.heap.size, 0, none⟩ (.string nm)).setCell ⟨w.heap.size, 1, none⟩ (.int .i64 v.1.1)).setCell ⟨w.heap.size, 2, none⟩ (.int .i64 v.1.2)).setCell ⟨w.heap.size, 3, none⟩ (.slice au lu cu)).setCell ⟨w.heap.size, 4, none⟩ (.slice ax lx cx)).setCell ⟨w.heap.size, 5, none⟩ (.bool s)) w.heap.size 9 1 z n xs := fun ho =>
    own_set' (own_set' (own_set' (own_set' (own_set' (own_set' (own_set' ho BV6.out (by decide) _) X5 (by decide) _) (setAt (j := 0) (v := .string nm) X5 rfl) (by decide) _)
      (setAt (j := 1) (v := .int .i64 v.1.1) (setAt (j := 0) (v := .string nm) X5 rfl) rfl) (by decide) _)
      (setAt (j := 2) (v := .int .i64 v.1.2) (setAt (j := 1) (v := .int .i64 v.1.1) (setAt (j := 0) (v := .string nm) X5 rfl) rfl) rfl) (by decide) _)
      (setAt (j := 3) (v := .slice au lu cu) (setAt (j := 2) (v := .int .i64 v.1.2) (setAt (j := 1) (v := .int .i64 v.1.1) (setAt (j := 0) (v := .string nm) X5 rfl) rfl) rfl) rfl) (by decide) _)
      (setAt (j := 4) (v := .slice ax lx cx) (setAt (j := 3) (v := .slice au lu cu) (setAt (j := 2) (v := .int .i64 v.1.2) (setAt (j := 1) (v := .int .i64 v.1.1) (setAt (j := 0) (v := .string nm) X5 rfl) rfl) rfl) rfl) rfl) (by decide) _
  have e0 : nodeX l = (⟨(nameX l).1, v.1.1, v.1.2, a.1, b.1, s⟩, (pSign 33 b.2.1).2, (((((nameX l).2.2 || !(pSign 58 (nameX l).2.1).1) || v.2.2) || a.2.2) || b.2.2)) := by
    unfold nodeX
    simp only
    rw [HV.out, HA.out, HB.out, HS.out]
  refine bodyPost_ret (v := .agg #[.string nm, .int .i64 v.1.1, .int .i64 v.1.2, .slice au lu cu, .slice ax lx cx, .bool s]) (by simp [results, Tryz.results151, go_sem, k0, k1, k2, k3, k4, k5]) rfl ⟨_, rfl, ?_, ?_, ?_⟩
  · rw [e0]
    exact ⟨.slice au lu cu, .slice ax lx cx, by rw [← HNM.out], own6 OU6.out, own6 OX6.out⟩
  · rw [e0]
    have e1 : ((!(pSign 58 (nameX l).2.1).1 || (no || (nameX l).2.2)) || v.2.2 || a.2.2 || b.2.2) = (no || (((((nameX l).2.2 || !(pSign 58 (nameX l).2.1).1) || v.2.2) || a.2.2) || b.2.2)) := by
      cases no <;> cases (nameX l).2.2 <;> cases (pSign 58 (nameX l).2.1).1 <;> cases v.2.2 <;> cases a.2.2 <;> cases b.2.2 <;> rfl
    have := ((((((H6.out.setOther hbg (j := 5) (.bool s)).setOther h0g (j := 0) (.string nm)).setOther h0g (j := 1) (.int .i64 v.1.1)).setOther h0g (j := 2) (.int .i64 v.1.2)).setOther h0g (j := 3) (.slice au lu cu)).setOther h0g (j := 4) (.slice ax lx cx)).setOther h0g (j := 5) (.bool s)
    rw [e1] at this
    exact this
  · exact ((((((G6.out.setNew (show w.heap.size ≤ w1.heap.size by omega) _).setNew (Nat.le_refl _) _).setNew (Nat.le_refl _) _).setNew (Nat.le_refl _) _).setNew (Nat.le_refl _) _).setNew (Nat.le_refl _) _).setNew (Nat.le_refl _) _
theorem rd_end (g : Nat) (l : List UInt8) (no : Bool) (w : World) (h : RdAt w g l no) :
    Calls Tryz.prog 154 #[.pointer (some ⟨g, 0, none⟩)] w fun e w' => e = .returned (.bool (!no && decide (l = []))) ∧ w = w' := by
  have c0 : w.cell? ⟨g, 0, none⟩ = some (.string (str l)) := cell_of_block h 0 _ rfl
  have c1 : w.cell? ⟨g, 1, none⟩ = some (.bool no) := cell_of_block h 1 _ rfl
  obtain ⟨s, hs⟩ : ∃ s, str l = s := ⟨_, rfl⟩
  rw [hs] at c0
  have hsz : s.size = l.length := by rw [← hs]; exact str_size l
  have HSZ := Lib.hid hsz
  clear h hs hsz
  by_cases hz : s.size = 0
  · have hz' := str_nil hz
    have hl : l = [] := List.length_eq_zero_iff.1 (HSZ.out.symm.trans hz)
    have HL := Lib.hid hl
    clear hz hl
    cases no
    all_goals
      go_enter Tryz.func154, Tryz.ntmps154
      go_wp2
      go_ret
      exact ⟨ret_bool (by simp [HL.out]), rfl⟩
  · have hz' := str_some hz
    have hz'' : ¬ s.toList = [] := by simpa using hz'
    have hl : ¬ l = [] := fun e => hz (by rw [HSZ.out, e]; rfl)
    have HL := Lib.hid hl
    clear hz hl
    cases no
    all_goals
      go_enter Tryz.func154, Tryz.ntmps154
      go_wp2
      go_ret
      exact ⟨ret_bool (by simp [HL.out, hz'']), rfl⟩
end Go.Proofs.YtikamehjeaoilaaGreatDoor
