/- The law's Make of any event. -/
import Derived.Test.YtoekofanmgdbmaaGreatDoorKg
import Derived.Test.YtoekofanmgdbmaaGreatDoorTm
import Derived.Deep.CutBlock
set_option linter.unusedVariables false
set_option linter.unusedSimpArgs false
namespace Go.Proofs.YtoekofanmgdbmaaGreatDoor
open Go.RowKit

/-- What there is of an event but for its kind. -/
def evSof (e : EvL) : EvS := ⟨e.a, e.b, e.id, e.pods, e.node⟩
/-- An event's cells where the law makes it. -/
def MkAt (base g k : Nat) (w : World) (s : EvS) : Prop :=
  ∃ vp u x, w.heap[g]? = some (.cells #[.int .i64 k, .int .i64 s.a, .int .i64 s.b, .int .i64 s.id, vp, .string (str s.node.name), .int .i64 s.node.cpu, .int .i64 s.node.mem, u, x, .bool s.node.closed] 34 (0, 0)) ∧
    PodsT base w vp s.pods ∧ Strs base w u (s.node.marks.map str) ∧ Strs base w x (s.node.taints.map str)
theorem set_node {w : World} {g : Nat} {T : TypeId} {k0 a0 b0 i0 vp x5 x6 x7 x8 x9 x10 : Value} (a' nm cp mm u x cl : Value) (h : w.heap[g]? = some (.cells #[k0, a0, b0, i0, vp, x5, x6, x7, x8, x9, x10] T (0, 0))) :
    (((((((w.setCell ⟨g, 1, none⟩ a').setCell ⟨g, 5, none⟩ nm).setCell ⟨g, 6, none⟩ cp).setCell ⟨g, 7, none⟩ mm).setCell ⟨g, 8, none⟩ u).setCell ⟨g, 9, none⟩ x).setCell ⟨g, 10, none⟩ cl).heap[g]? = some (.cells #[k0, a', b0, i0, vp, nm, cp, mm, u, x, cl] T (0, 0)) ∧
    Gb g w (((((((w.setCell ⟨g, 1, none⟩ a').setCell ⟨g, 5, none⟩ nm).setCell ⟨g, 6, none⟩ cp).setCell ⟨g, 7, none⟩ mm).setCell ⟨g, 8, none⟩ u).setCell ⟨g, 9, none⟩ x).setCell ⟨g, 10, none⟩ cl) := by
  have h1 := (heap_setCell_same _ g 1 #[k0, a0, b0, i0, vp, x5, x6, x7, x8, x9, x10] T a' h : _ = some (Obj.cells #[k0, a', b0, i0, vp, x5, x6, x7, x8, x9, x10] T (0, 0)))
  have h2 := (heap_setCell_same _ g 5 #[k0, a', b0, i0, vp, x5, x6, x7, x8, x9, x10] T nm h1 : _ = some (Obj.cells #[k0, a', b0, i0, vp, nm, x6, x7, x8, x9, x10] T (0, 0)))
  have h3 := (heap_setCell_same _ g 6 #[k0, a', b0, i0, vp, nm, x6, x7, x8, x9, x10] T cp h2 : _ = some (Obj.cells #[k0, a', b0, i0, vp, nm, cp, x7, x8, x9, x10] T (0, 0)))
  have h4 := (heap_setCell_same _ g 7 #[k0, a', b0, i0, vp, nm, cp, x7, x8, x9, x10] T mm h3 : _ = some (Obj.cells #[k0, a', b0, i0, vp, nm, cp, mm, x8, x9, x10] T (0, 0)))
  have h5 := (heap_setCell_same _ g 8 #[k0, a', b0, i0, vp, nm, cp, mm, x8, x9, x10] T u h4 : _ = some (Obj.cells #[k0, a', b0, i0, vp, nm, cp, mm, u, x9, x10] T (0, 0)))
  have h6 := (heap_setCell_same _ g 9 #[k0, a', b0, i0, vp, nm, cp, mm, u, x9, x10] T x h5 : _ = some (Obj.cells #[k0, a', b0, i0, vp, nm, cp, mm, u, x, x10] T (0, 0)))
  have h7 := (heap_setCell_same _ g 10 #[k0, a', b0, i0, vp, nm, cp, mm, u, x, x10] T cl h6 : _ = some (Obj.cells #[k0, a', b0, i0, vp, nm, cp, mm, u, x, cl] T (0, 0)))
  exact ⟨h7,
    ((((((Gb.set w g 1 _).trans (Gb.set _ g 5 _)).trans (Gb.set _ g 6 _)).trans (Gb.set _ g 7 _)).trans (Gb.set _ g 8 _)).trans (Gb.set _ g 9 _)).trans (Gb.set _ g 10 _)⟩
set_option maxHeartbeats 8000000 in
set_option maxRecDepth 1000000 in
theorem make_any (kd a b : Int) (v : Value) (ps : List Int) (n : Int) (w : World) (hn : Nums w v ps) : Calls Tryz.prog 7 #[.int .i64 kd, .int .i64 a, .int .i64 b, v, .int .i64 n] w fun e w' => ∃ ev, e = .returned (.tuple #[ev, ev]) ∧ EvR w.heap.size w' ev (evQ kd a b ps n).kind (evSof (evQ kd a b ps n)) ∧ Below w.heap.size w w' := by
  have HN := Lib.hid hn
  obtain ⟨pa, pc, rfl, hnl, _⟩ := hn
  have hk1 := Int.emod_nonneg kd (show (11 : Int) ≠ 0 by decide)
  have hk2 := Int.emod_lt_of_pos kd (show (0 : Int) < 11 by decide)
  go_enter Tryz.func7, Tryz.ntmps7
  go_wp2_with fail
  refine (within15_any kd 11 (by omega) (by omega) _).mono ?_
  rintro e w1 ⟨rfl, rfl⟩
  obtain ⟨k, hk⟩ : ∃ k : Nat, 1 + kd % 11 = k := ⟨(1 + kd % 11).toNat, by omega⟩
  have hkk : kd % 11 = (k : Int) - 1 := by omega
  rw [hkk]
  have kr : IntKind.i64.wrap (1 + ((k : Int) - 1)) = (k : Int) := by rw [show 1 + ((k : Int) - 1) = k by omega]; exact kwid (by omega) (by omega)
  have hkl : 1 ≤ k := by omega
  have hkh : k ≤ 11 := by omega
  have HK := Lib.hid hk
  clear hk hkk hk1 hk2
  go_upto_region 2 with fail
  have hb3 : Below w.heap.size w (((w.alloc (.cells #[.int .i64 0, .int .i64 0, .int .i64 0, .int .i64 0, .slice none 0 0, .string ⟨#[]⟩, .int .i64 0, .int .i64 0, .slice none 0 0, .slice none 0 0, .bool false] 33)).alloc (.cells #[.int .i64 0, .int .i64 0, .int .i64 0, .int .i64 0, .slice none 0 0, .string ⟨#[]⟩, .int .i64 0, .int .i64 0, .slice none 0 0, .slice none 0 0, .bool false] 34)).alloc (.cells #[.int .i64 k, .int .i64 0, .int .i64 0, .int .i64 0, .slice none 0 0, .string ⟨#[]⟩, .int .i64 0, .int .i64 0, .slice none 0 0, .slice none 0 0, .bool false] 34)) := below_alloc' (below_alloc' (below_alloc' (Below.refl _ _) _) _) _
  have z2 : (((w.alloc (.cells #[.int .i64 0, .int .i64 0, .int .i64 0, .int .i64 0, .slice none 0 0, .string ⟨#[]⟩, .int .i64 0, .int .i64 0, .slice none 0 0, .slice none 0 0, .bool false] 33)).alloc (.cells #[.int .i64 0, .int .i64 0, .int .i64 0, .int .i64 0, .slice none 0 0, .string ⟨#[]⟩, .int .i64 0, .int .i64 0, .slice none 0 0, .slice none 0 0, .bool false] 34)).alloc (.cells #[.int .i64 k, .int .i64 0, .int .i64 0, .int .i64 0, .slice none 0 0, .string ⟨#[]⟩, .int .i64 0, .int .i64 0, .slice none 0 0, .slice none 0 0, .bool false] 34)).heap[w.heap.size + 1 + 1]? = some (.cells #[.int .i64 k, .int .i64 0, .int .i64 0, .int .i64 0, .slice none 0 0, .string ⟨#[]⟩, .int .i64 0, .int .i64 0, .slice none 0 0, .slice none 0 0, .bool false] 34 (0, 0)) := alloc_is (by simp) _
  have z1 : (((w.alloc (.cells #[.int .i64 0, .int .i64 0, .int .i64 0, .int .i64 0, .slice none 0 0, .string ⟨#[]⟩, .int .i64 0, .int .i64 0, .slice none 0 0, .slice none 0 0, .bool false] 33)).alloc (.cells #[.int .i64 0, .int .i64 0, .int .i64 0, .int .i64 0, .slice none 0 0, .string ⟨#[]⟩, .int .i64 0, .int .i64 0, .slice none 0 0, .slice none 0 0, .bool false] 34)).alloc (.cells #[.int .i64 k, .int .i64 0, .int .i64 0, .int .i64 0, .slice none 0 0, .string ⟨#[]⟩, .int .i64 0, .int .i64 0, .slice none 0 0, .slice none 0 0, .bool false] 34)).heap[w.heap.size + 1]? = some (.cells #[.int .i64 0, .int .i64 0, .int .i64 0, .int .i64 0, .slice none 0 0, .string ⟨#[]⟩, .int .i64 0, .int .i64 0, .slice none 0 0, .slice none 0 0, .bool false] 34 (0, 0)) := block_below (alloc_is (by simp) _) (below_alloc' (Below.refl _ _) _)
  have z0 : (((w.alloc (.cells #[.int .i64 0, .int .i64 0, .int .i64 0, .int .i64 0, .slice none 0 0, .string ⟨#[]⟩, .int .i64 0, .int .i64 0, .slice none 0 0, .slice none 0 0, .bool false] 33)).alloc (.cells #[.int .i64 0, .int .i64 0, .int .i64 0, .int .i64 0, .slice none 0 0, .string ⟨#[]⟩, .int .i64 0, .int .i64 0, .slice none 0 0, .slice none 0 0, .bool false] 34)).alloc (.cells #[.int .i64 k, .int .i64 0, .int .i64 0, .int .i64 0, .slice none 0 0, .string ⟨#[]⟩, .int .i64 0, .int .i64 0, .slice none 0 0, .slice none 0 0, .bool false] 34)).heap[w.heap.size]? = some (.cells #[.int .i64 0, .int .i64 0, .int .i64 0, .int .i64 0, .slice none 0 0, .string ⟨#[]⟩, .int .i64 0, .int .i64 0, .slice none 0 0, .slice none 0 0, .bool false] 33 (0, 0)) := block_below (block_below (alloc_at _ _) (below_alloc' (Below.refl _ _) _)) (below_alloc' (Below.refl _ _) _)
  generalize World.alloc (World.alloc (World.alloc w _) _) _ = w3 at hb3 z0 z1 z2 ⊢
  have c0 := cell_of_block z2 0 _ rfl
  have HB3 := Lib.hid hb3
  have Z0 := Lib.hid z0
  have Z1 := Lib.hid z1
  have Z2 := Lib.hid z2
  clear hb3 z0 z1 z2 kr
  go_upto_block 0 with fail
  obtain ⟨K, hK⟩ : ∃ K, (evQ kd a b ps n).kind = K := ⟨_, rfl⟩
  obtain ⟨S, hS⟩ : ∃ S, evSof (evQ kd a b ps n) = S := ⟨_, rfl⟩
  go_cut [] (fun wx => MkAt w.heap.size (w.heap.size + 1 + 1) (evQ kd a b ps n).kind wx (evSof (evQ kd a b ps n)) ∧ Below w.heap.size w wx ∧ wx.heap[w.heap.size]? = some (.cells #[.int .i64 0, .int .i64 0, .int .i64 0, .int .i64 0, .slice none 0 0, .string ⟨#[]⟩, .int .i64 0, .int .i64 0, .slice none 0 0, .slice none 0 0, .bool false] 33 (0, 0)) ∧ wx.heap[w.heap.size + 1]? = some (.cells #[.int .i64 0, .int .i64 0, .int .i64 0, .int .i64 0, .slice none 0 0, .string ⟨#[]⟩, .int .i64 0, .int .i64 0, .slice none 0 0, .slice none 0 0, .bool false] 34 (0, 0)))
  case first =>
    have hg0 : Gb (w.heap.size + 1 + 1) w3 w3 := Gb.refl _ _
    clear hK hS
    by_cases h1 : k = 1
    · subst h1
      have hE : evQ kd a b ps n = ⟨1, 0, 0, (a % 1000000).toNat, if b % 9 = 0 then [] else gangQ a ps 4, noNode⟩ := by unfold evQ; rw [HK.out]; rfl
      have HE := Lib.hid hE
      have ha1 := Int.emod_nonneg a (show (1000000 : Int) ≠ 0 by decide)
      obtain ⟨na, hna⟩ : ∃ na : Nat, a % 1000000 = na := ⟨(a % 1000000).toNat, by omega⟩
      have HNA := Lib.hid hna
      clear hE hna ha1 hg0
      go_wp2_with fail
      refine (lgang_any a _ ps w3 (HN.out.below HB3.out)).mono ?_
      rintro e w4 ⟨u, rfl, hp, hb4⟩
      obtain ⟨cu, hown, _⟩ := id hp
      obtain ⟨ua, uc, rfl⟩ := own_slicen hown
      obtain ⟨lu, hlu⟩ : ∃ l, (gangQ a ps 4).length = l := ⟨_, rfl⟩
      rw [hlu] at hp ⊢
      clear hown hlu
      have hz4 := block_below Z2.out hb4
      have c3 := cell_of_block hz4 3 _ rfl
      have c4 := cell_of_block hz4 4 _ rfl
      have fz := fun j => free_of_block hz4 j
      have hz5 := heap_setCell_same _ _ 4 _ _ (.slice ua lu uc) (heap_setCell_same _ _ 3 _ _ (.int .i64 (1 + a % 999999)) hz4)
      have hg5 := ((Gb.of_below (g := w.heap.size + 1 + 1) hb4).trans (Gb.set w4 _ 3 (.int .i64 (1 + a % 999999)))).trans (Gb.set _ _ 4 (.slice ua lu uc))
      have hp5 := ((hp.base HB3.out.size).set hz4 (by decide) (by decide) (Gb.set w4 _ 3 (.int .i64 (1 + a % 999999)))).set (heap_setCell_same _ _ 3 _ _ (.int .i64 (1 + a % 999999)) hz4) (by decide) (by decide) (Gb.set _ _ 4 (.slice ua lu uc))
      have HZ5 := Lib.hid hz5
      have HG5 := Lib.hid hg5
      have HP5 := Lib.hid hp5
      clear hp hb4 hz4 hz5 hg5 hp5
      go_wp2_with fail
      refine (within15_any a 1000000 (by omega) (by omega) _).mono ?_
      rintro e wx ⟨rfl, rfl⟩
      clear c3 c4 fz
      generalize World.setCell (World.setCell w4 _ _) _ _ = w5 at HZ5 HG5 HP5 ⊢
      rw [HNA.out]
      have c3 := cell_of_block HZ5.out 3 _ rfl
      have fz := fun j => free_of_block HZ5.out j
      have HZ6 := Lib.hid (heap_setCell_same _ _ 3 _ _ (.int .i64 na) HZ5.out)
      have HG6 := Lib.hid (HG5.out.trans (Gb.set w5 _ 3 (.int .i64 na)))
      have HP6 := Lib.hid (HP5.out.set HZ5.out (by decide) (by decide) (Gb.set w5 _ 3 (.int .i64 na)))
      go_wp2_with fail
      refine (within15_any b 9 (by omega) (by omega) _).mono ?_
      rintro e wx ⟨rfl, rfl⟩
      clear c3 fz HZ5 HG5 HP5
      generalize World.setCell w5 _ _ = w6 at HZ6 HG6 HP6 ⊢
      have hna : (a % 1000000).toNat = na := by have := HNA.out; omega
      obtain ⟨r, hr⟩ : ∃ r, b % 9 = r := ⟨_, rfl⟩
      rw [hr]
      have HR := Lib.hid hr
      have HNN := Lib.hid hna
      clear hr hna
      have c4 := cell_of_block HZ6.out 4 _ rfl
      have fz := fun j => free_of_block HZ6.out j
      by_cases h9 : r = 0
      · subst h9
        go_wp2_with fail
        go_meet
        rw [HE.out, if_pos HR.out]
        refine ⟨⟨.slice none 0 0, .slice none 0 0, .slice none 0 0, ?_, PodsT.nil _ _, World.ownsRow_nil _ _ _ _, World.ownsRow_nil _ _ _ _⟩, ?_, ?_, ?_⟩
        · refine (heap_setCell_same _ _ 4 _ _ (.slice none 0 0) HZ6.out).trans ?_
          simp only [evSof, HNN.out]
          rfl
        · exact Gb.below HB3.out (HG6.out.trans (Gb.set w6 _ 4 _)) (by omega) HB3.out.size
        · exact Gb.block' (HG6.out.trans (Gb.set w6 _ 4 _)) Z0.out (by omega)
        · exact Gb.block' (HG6.out.trans (Gb.set w6 _ 4 _)) Z1.out (by omega)
      · have hr9 : ¬ b % 9 = 0 := by rw [HR.out]; exact h9
        have HR9 := Lib.hid hr9
        have hrb : (r == 0) = false := beq_eq_false_iff_ne.2 h9
        clear hr9
        go_wp2_with fail
        go_meet
        rw [HE.out, if_neg HR9.out]
        refine ⟨⟨.slice ua lu uc, .slice none 0 0, .slice none 0 0, ?_, HP6.out, World.ownsRow_nil _ _ _ _, World.ownsRow_nil _ _ _ _⟩, ?_, ?_, ?_⟩
        · refine HZ6.out.trans ?_
          simp only [evSof, HNN.out]
          rfl
        · exact Gb.below HB3.out HG6.out (by omega) HB3.out.size
        · exact Gb.block' HG6.out Z0.out (by omega)
        · exact Gb.block' HG6.out Z1.out (by omega)
    · have b1 : ((k : Int) == 1) = false := beq_eq_false_iff_ne.2 (by omega)
      by_cases h4 : k = 4
      · subst h4
        have hE : evQ kd a b ps n = ⟨4, (a % 9).toNat, 0, 0, [], nodeQ b n⟩ := by unfold evQ; rw [HK.out]; rfl
        have HE := Lib.hid hE
        have ha1 := Int.emod_nonneg a (show (9 : Int) ≠ 0 by decide)
        obtain ⟨na, hna⟩ : ∃ na : Nat, a % 9 = na := ⟨(a % 9).toNat, by omega⟩
        have HNA := Lib.hid hna
        clear hE hna ha1 hg0
        go_wp2_with fail
        refine (within15_any a 9 (by omega) (by omega) _).mono ?_
        rintro e wx ⟨rfl, rfl⟩
        rw [HNA.out]
        go_wp2_with fail
        refine (lnode_any b n _).mono ?_
        rintro e w4 ⟨nv, rfl, ⟨u, x, rfl, hu, hx⟩, hb4⟩
        obtain ⟨ua, lu, uc, rfl⟩ := own_slice hu
        obtain ⟨xa, lx, xc, rfl⟩ := own_slice hx
        obtain ⟨N, hN⟩ : ∃ N, nodeQ b n = N := ⟨_, rfl⟩
        rw [hN] at hu hx ⊢
        have hz4 := block_below Z2.out hb4
        have fz := fun j => free_of_block hz4 j
        have c1 := cell_of_block hz4 1 _ rfl
        have c5 := cell_of_block hz4 5 _ rfl
        have c6 := cell_of_block hz4 6 _ rfl
        have c7 := cell_of_block hz4 7 _ rfl
        have c8 := cell_of_block hz4 8 _ rfl
        have c9 := cell_of_block hz4 9 _ rfl
        have c10 := cell_of_block hz4 10 _ rfl
        have HZ4 := Lib.hid hz4
        have HU := Lib.hid hu
        have HX := Lib.hid hx
        have HB4 := Lib.hid hb4
        have HNQ := Lib.hid hN
        clear hz4 hu hx hb4 hN
        go_wp2_with fail
        go_meet
        clear c1 c5 c6 c7 c8 c9 c10 fz
        obtain ⟨hz5, hg5⟩ := set_node (.int .i64 na) (.string (str N.name)) (.int .i64 N.cpu) (.int .i64 N.mem) (.slice ua lu uc) (.slice xa lx xc) (.bool N.closed) HZ4.out
        generalize World.setCell (World.setCell (World.setCell (World.setCell (World.setCell (World.setCell (World.setCell w4 _ _) _ _) _ _) _ _) _ _) _ _) _ _ = w5 at hz5 hg5 ⊢
        have hg := (Gb.of_below (g := w.heap.size + 1 + 1) HB4.out).trans hg5
        have hna : (a % 9).toNat = na := by have := HNA.out; omega
        rw [HE.out]
        refine ⟨⟨.slice none 0 0, .slice ua lu uc, .slice xa lx xc, ?_, PodsT.nil _ _, ?_, ?_⟩, ?_, ?_, ?_⟩
        · refine hz5.trans ?_
          simp only [evSof, hna, HNQ.out]
          rfl
        · simp only [evSof, HNQ.out]
          exact own_gbx (own_base HU.out HB3.out.size) HZ4.out (by decide) hg5
        · simp only [evSof, HNQ.out]
          exact own_gbx (own_base HX.out HB3.out.size) HZ4.out (by decide) hg5
        · exact Gb.below HB3.out hg (by omega) HB3.out.size
        · exact Gb.block' hg Z0.out (by omega)
        · exact Gb.block' hg Z1.out (by omega)
      · have b4 : ((k : Int) == 4) = false := beq_eq_false_iff_ne.2 (by omega)
        by_cases h5 : k = 5
        · subst h5
          have hE : evQ kd a b ps n = ⟨5, (a % 9).toNat, 0, 0, [], ⟨nameQ b, 0, 0, [], [], false⟩⟩ := by unfold evQ; rw [HK.out]; rfl
          have HE := Lib.hid hE
          have ha1 := Int.emod_nonneg a (show (9 : Int) ≠ 0 by decide)
          obtain ⟨na, hna⟩ : ∃ na : Nat, a % 9 = na := ⟨(a % 9).toNat, by omega⟩
          have HNA := Lib.hid hna
          clear hE hna ha1 hg0
          go_wp2_with fail
          refine (within15_any a 9 (by omega) (by omega) _).mono ?_
          rintro e wx ⟨rfl, rfl⟩
          rw [HNA.out]
          have c1 := cell_of_block Z2.out 1 _ rfl
          have fz := fun j => free_of_block Z2.out j
          go_wp2_with fail
          refine (lname8_any b _).mono ?_
          rintro e w4 ⟨rfl, hb4⟩
          rw [nameOf_Q]
          obtain ⟨zn, hzn⟩ : ∃ z, str (nameQ b) = z := ⟨_, rfl⟩
          rw [hzn]
          have HZN := Lib.hid hzn
          have hz4 := block_below (heap_setCell_same _ _ 1 _ _ (.int .i64 na) Z2.out) hb4
          have HG4 := Lib.hid ((Gb.set w3 (w.heap.size + 1 + 1) 1 (.int .i64 na)).trans (Gb.of_below hb4))
          clear hzn hb4 c1 fz
          have c5 := cell_of_block hz4 5 _ rfl
          have fz := fun j => free_of_block hz4 j
          have HZ4 := Lib.hid hz4
          clear hz4
          go_wp2_with fail
          go_meet
          have hg := HG4.out.trans (Gb.set w4 (w.heap.size + 1 + 1) 5 (.string zn))
          have hna : (a % 9).toNat = na := by have := HNA.out; omega
          rw [HE.out]
          refine ⟨⟨.slice none 0 0, .slice none 0 0, .slice none 0 0, ?_, PodsT.nil _ _, World.ownsRow_nil _ _ _ _, World.ownsRow_nil _ _ _ _⟩, ?_, ?_, ?_⟩
          · refine (heap_setCell_same _ _ 5 _ _ (.string zn) HZ4.out).trans ?_
            simp only [evSof, hna, HZN.out]
            rfl
          · exact Gb.below HB3.out hg (by omega) HB3.out.size
          · exact Gb.block' hg Z0.out (by omega)
          · exact Gb.block' hg Z1.out (by omega)
        · have b5 : ((k : Int) == 5) = false := beq_eq_false_iff_ne.2 (by omega)
          have ha1 := Int.emod_nonneg a (show (1000000 : Int) ≠ 0 by decide)
          obtain ⟨na, hna⟩ : ∃ na : Nat, a % 1000000 = na := ⟨(a % 1000000).toNat, by omega⟩
          have HNA := Lib.hid hna
          clear hna ha1 hg0
          by_cases h10 : k = 10
          · subst h10
            have hE : evQ kd a b ps n = ⟨10, (a % 1000000).toNat, (b % 1000000).toNat, 0, [], noNode⟩ := by unfold evQ; rw [HK.out]; rfl
            have HE := Lib.hid hE
            have hb1 := Int.emod_nonneg b (show (1000000 : Int) ≠ 0 by decide)
            obtain ⟨nb, hnb⟩ : ∃ nb : Nat, b % 1000000 = nb := ⟨(b % 1000000).toNat, by omega⟩
            have HNB := Lib.hid hnb
            clear hE hnb hb1
            go_wp2_with fail
            refine (within15_any a 1000000 (by omega) (by omega) _).mono ?_
            rintro e wx ⟨rfl, rfl⟩
            rw [HNA.out]
            go_wp2_with fail
            refine (within15_any b 1000000 (by omega) (by omega) _).mono ?_
            rintro e wx ⟨rfl, rfl⟩
            rw [HNB.out]
            have c1 := cell_of_block Z2.out 1 _ rfl
            have c2 := cell_of_block Z2.out 2 _ rfl
            have fz := fun j => free_of_block Z2.out j
            go_wp2_with fail
            go_meet
            have hg := (Gb.set w3 (w.heap.size + 1 + 1) 1 (.int .i64 na)).trans (Gb.set _ _ 2 (.int .i64 nb))
            have hna : (a % 1000000).toNat = na := by have := HNA.out; omega
            have hnb : (b % 1000000).toNat = nb := by have := HNB.out; omega
            rw [HE.out]
            refine ⟨⟨.slice none 0 0, .slice none 0 0, .slice none 0 0, ?_, PodsT.nil _ _, World.ownsRow_nil _ _ _ _, World.ownsRow_nil _ _ _ _⟩, ?_, ?_, ?_⟩
            · refine (heap_setCell_same _ _ 2 _ _ (.int .i64 nb) (heap_setCell_same _ _ 1 _ _ (.int .i64 na) Z2.out)).trans ?_
              simp only [evSof, hna, hnb]
              rfl
            · exact Gb.below HB3.out hg (by omega) HB3.out.size
            · exact Gb.block' hg Z0.out (by omega)
            · exact Gb.block' hg Z1.out (by omega)
          · have b10 : ((k : Int) == 10) = false := beq_eq_false_iff_ne.2 (by omega)
            have hE : evQ kd a b ps n = ⟨k, (a % 1000000).toNat, 0, 0, [], noNode⟩ := by
              have hkt : (1 + kd % 11).toNat = k := by have := HK.out; omega
              unfold evQ
              rw [hkt]
              simp only [if_neg h1, if_neg h4, if_neg h5, if_neg h10]
            have HE := Lib.hid hE
            clear hE
            go_wp2_with fail
            refine (within15_any a 1000000 (by omega) (by omega) _).mono ?_
            rintro e wx ⟨rfl, rfl⟩
            rw [HNA.out]
            have c1 := cell_of_block Z2.out 1 _ rfl
            have fz := fun j => free_of_block Z2.out j
            go_wp2_with fail
            go_meet
            have hg := (Gb.set w3 (w.heap.size + 1 + 1) 1 (.int .i64 na))
            have hna : (a % 1000000).toNat = na := by have := HNA.out; omega
            rw [HE.out]
            refine ⟨⟨.slice none 0 0, .slice none 0 0, .slice none 0 0, ?_, PodsT.nil _ _, World.ownsRow_nil _ _ _ _, World.ownsRow_nil _ _ _ _⟩, ?_, ?_, ?_⟩
            · refine (heap_setCell_same _ _ 1 _ _ (.int .i64 na) Z2.out).trans ?_
              simp only [evSof, hna]
              rfl
            · exact Gb.below HB3.out hg (by omega) HB3.out.size
            · exact Gb.block' hg Z0.out (by omega)
            · exact Gb.block' hg Z1.out (by omega)
  case rest =>
    obtain ⟨⟨vp, u, x, hz, hp, hu, hx⟩, hb, hz0, hz1⟩ := hcut
    clear HB3 Z0 Z1 Z2
    obtain ⟨E, hE⟩ : ∃ E, (evQ kd a b ps n).kind = E := ⟨_, rfl⟩
    obtain ⟨S, hS⟩ : ∃ S, evSof (evQ kd a b ps n) = S := ⟨_, rfl⟩
    rw [hS] at hz hp hu hx
    rw [hE] at hz
    have HE := Lib.hid hE
    have HS := Lib.hid hS
    obtain ⟨cp, hown, _⟩ := id hp
    obtain ⟨va, vc, rfl⟩ := own_slicen hown
    obtain ⟨vl, hvl⟩ : ∃ z, S.pods.length = z := ⟨_, rfl⟩
    rw [hvl] at hz hp
    obtain ⟨ua, ul, uc, rfl⟩ := own_slice hu
    obtain ⟨xa, xl, xc, rfl⟩ := own_slice hx
    obtain ⟨zn, hzn⟩ : ∃ z, str S.node.name = z := ⟨_, rfl⟩
    rw [hzn] at hz
    have HZN := Lib.hid hzn
    have HP := Lib.hid hp
    have HU := Lib.hid hu
    have HX := Lib.hid hx
    have HB := Lib.hid hb
    have Z0 := Lib.hid hz0
    have Z1 := Lib.hid hz1
    have Z2 := Lib.hid hz
    clear hp hu hx hb hz0 hz1 hz hzn hown hE hS hvl hK HK HN
    go_upto_region 16 with fail
    have f0 := fun j => free_of_block Z0.out j
    have f1 := fun j => free_of_block Z1.out j
    have c0 := cell_of_block Z2.out 0 _ rfl
    have a0 := cell_of_block Z0.out 0 _ rfl
    have b0 := cell_of_block Z1.out 0 _ rfl
    have c1 := cell_of_block Z2.out 1 _ rfl
    have a1 := cell_of_block Z0.out 1 _ rfl
    have b1 := cell_of_block Z1.out 1 _ rfl
    have c2 := cell_of_block Z2.out 2 _ rfl
    have a2 := cell_of_block Z0.out 2 _ rfl
    have b2 := cell_of_block Z1.out 2 _ rfl
    have c3 := cell_of_block Z2.out 3 _ rfl
    have a3 := cell_of_block Z0.out 3 _ rfl
    have b3 := cell_of_block Z1.out 3 _ rfl
    have c4 := cell_of_block Z2.out 4 _ rfl
    have a4 := cell_of_block Z0.out 4 _ rfl
    have b4 := cell_of_block Z1.out 4 _ rfl
    have c5 := cell_of_block Z2.out 5 _ rfl
    have a5 := cell_of_block Z0.out 5 _ rfl
    have b5 := cell_of_block Z1.out 5 _ rfl
    have c6 := cell_of_block Z2.out 6 _ rfl
    have a6 := cell_of_block Z0.out 6 _ rfl
    have b6 := cell_of_block Z1.out 6 _ rfl
    have c7 := cell_of_block Z2.out 7 _ rfl
    have a7 := cell_of_block Z0.out 7 _ rfl
    have b7 := cell_of_block Z1.out 7 _ rfl
    have c8 := cell_of_block Z2.out 8 _ rfl
    have a8 := cell_of_block Z0.out 8 _ rfl
    have b8 := cell_of_block Z1.out 8 _ rfl
    have c9 := cell_of_block Z2.out 9 _ rfl
    have a9 := cell_of_block Z0.out 9 _ rfl
    have b9 := cell_of_block Z1.out 9 _ rfl
    have c10 := cell_of_block Z2.out 10 _ rfl
    have a10 := cell_of_block Z0.out 10 _ rfl
    have b10 := cell_of_block Z1.out 10 _ rfl
    go_region
    clear a0 b0 c0 a1 b1 c1 a2 b2 c2 a3 b3 c3 a4 b4 c4 a5 b5 c5 a6 b6 c6 a7 b7 c7 a8 b8 c8 a9 b9 c9 a10 b10 c10 f0 f1
    go_wp2
    have g0 := sets11 (.int .i64 E) (.int .i64 S.a) (.int .i64 S.b) (.int .i64 S.id) (.slice va vl vc) (.string zn) (.int .i64 S.node.cpu) (.int .i64 S.node.mem) (.slice ua ul uc) (.slice xa xl xc) (.bool S.node.closed) Z0.out
    have q0 := Gb.sets w.heap.size [.int .i64 E, .int .i64 S.a, .int .i64 S.b, .int .i64 S.id, .slice va vl vc, .string zn, .int .i64 S.node.cpu, .int .i64 S.node.mem, .slice ua ul uc, .slice xa xl xc, .bool S.node.closed] 0 wc
    have p0 := HP.out.set Z0.out (by decide) (by decide) q0
    have u0 := own_gbx HU.out Z0.out (by decide) q0
    have x0 := own_gbx HX.out Z0.out (by decide) q0
    have z1 := Gb.block' q0 Z1.out (by omega)
    have h0 := Gb.below HB.out q0 (Nat.le_refl _) HB.out.size
    obtain ⟨W1, hW1⟩ : ∃ W1, wc.setCells w.heap.size 0 [.int .i64 E, .int .i64 S.a, .int .i64 S.b, .int .i64 S.id, .slice va vl vc, .string zn, .int .i64 S.node.cpu, .int .i64 S.node.mem, .slice ua ul uc, .slice xa xl xc, .bool S.node.closed] = W1 := ⟨_, rfl⟩
    rw [hW1] at g0 q0 p0 u0 x0 z1 h0
    have g2 := sets11 (.int .i64 E) (.int .i64 S.a) (.int .i64 S.b) (.int .i64 S.id) (.slice va vl vc) (.string zn) (.int .i64 S.node.cpu) (.int .i64 S.node.mem) (.slice ua ul uc) (.slice xa xl xc) (.bool S.node.closed) z1
    have q2 := Gb.sets (w.heap.size + 1) [.int .i64 E, .int .i64 S.a, .int .i64 S.b, .int .i64 S.id, .slice va vl vc, .string zn, .int .i64 S.node.cpu, .int .i64 S.node.mem, .slice ua ul uc, .slice xa xl xc, .bool S.node.closed] 0 W1
    have p2 := p0.set z1 (by decide) (by decide) q2
    have u2 := own_gbx u0 z1 (by decide) q2
    have x2 := own_gbx x0 z1 (by decide) q2
    have g3 := Gb.block' q2 g0 (by omega)
    have h2 := Gb.below h0 q2 (by omega) h0.size
    obtain ⟨W2, hW2⟩ : ∃ W2, W1.setCells (w.heap.size + 1) 0 [.int .i64 E, .int .i64 S.a, .int .i64 S.b, .int .i64 S.id, .slice va vl vc, .string zn, .int .i64 S.node.cpu, .int .i64 S.node.mem, .slice ua ul uc, .slice xa xl xc, .bool S.node.closed] = W2 := ⟨_, rfl⟩
    rw [hW2] at g2 q2 p2 u2 x2 g3 h2
    rw [← hW1] at hW2
    refine bp_at (congrArg World.drew hW2) ?_
    clear hW2 hW1 g0 h0 p0 u0 x0 z1 q0 q2
    replace g3 : W2.drew.heap[w.heap.size]? = _ := g3
    replace g2 : W2.drew.heap[w.heap.size + 1]? = _ := g2
    replace h2 := h2.drew
    replace p2 : PodsT w.heap.size W2.drew (.slice va vl vc) S.pods := p2
    replace u2 : Strs w.heap.size W2.drew (.slice ua ul uc) _ := u2
    replace x2 : Strs w.heap.size W2.drew (.slice xa xl xc) _ := x2
    generalize W2.drew = W3 at g3 g2 h2 p2 u2 x2 ⊢
    have k0 := cell_of_block g3 0 _ rfl
    have l0 := cell_of_block g2 0 _ rfl
    have k1 := cell_of_block g3 1 _ rfl
    have l1 := cell_of_block g2 1 _ rfl
    have k2 := cell_of_block g3 2 _ rfl
    have l2 := cell_of_block g2 2 _ rfl
    have k3 := cell_of_block g3 3 _ rfl
    have l3 := cell_of_block g2 3 _ rfl
    have k4 := cell_of_block g3 4 _ rfl
    have l4 := cell_of_block g2 4 _ rfl
    have k5 := cell_of_block g3 5 _ rfl
    have l5 := cell_of_block g2 5 _ rfl
    have k6 := cell_of_block g3 6 _ rfl
    have l6 := cell_of_block g2 6 _ rfl
    have k7 := cell_of_block g3 7 _ rfl
    have l7 := cell_of_block g2 7 _ rfl
    have k8 := cell_of_block g3 8 _ rfl
    have l8 := cell_of_block g2 8 _ rfl
    have k9 := cell_of_block g3 9 _ rfl
    have l9 := cell_of_block g2 9 _ rfl
    have k10 := cell_of_block g3 10 _ rfl
    have l10 := cell_of_block g2 10 _ rfl
    refine bodyPost_ret (v := .tuple #[.agg #[.int .i64 E, .int .i64 S.a, .int .i64 S.b, .int .i64 S.id, .slice va vl vc, .string zn, .int .i64 S.node.cpu, .int .i64 S.node.mem, .slice ua ul uc, .slice xa xl xc, .bool S.node.closed], .agg #[.int .i64 E, .int .i64 S.a, .int .i64 S.b, .int .i64 S.id, .slice va vl vc, .string zn, .int .i64 S.node.cpu, .int .i64 S.node.mem, .slice ua ul uc, .slice xa xl xc, .bool S.node.closed]]) (by simp [results, Tryz.results7, go_sem, k0, l0, k1, l1, k2, l2, k3, l3, k4, l4, k5, l5, k6, l6, k7, l7, k8, l8, k9, l9, k10, l10]) rfl ?_
    refine ⟨_, rfl, ⟨.slice va vl vc, .slice ua ul uc, .slice xa xl xc, ?_, ?_, ?_, ?_⟩, h2⟩
    · rw [HE.out, HS.out, HZN.out]
    · rw [HS.out]; exact p2
    · rw [HS.out]; exact u2
    · rw [HS.out]; exact x2
end Go.Proofs.YtoekofanmgdbmaaGreatDoor
