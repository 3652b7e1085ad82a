/- The law's Make of any event. -/
import Derived.Test.YtikamehjeaoilaaGreatDoorKg
import Derived.Test.YtikamehjeaoilaaGreatDoorTm
import Derived.Deep.CutBlock
import Derived.Lib.ConvBytes
import Derived.Test.YtikamehjeaoilaaGreatDoorW
import Derived.Test.YtikamehjeaoilaaGreatDoorNm
import Derived.Test.YtikamehjeaoilaaGreatDoorKd
set_option linter.unusedVariables false
set_option linter.unusedSimpArgs false
namespace Go.Proofs.YtikamehjeaoilaaGreatDoor
open Go.RowKit

/-- What there is of an event but for its kind. -/
def evSof (e : EvL) : EvS := ⟨e.a, e.b, e.id, e.pods, e.node⟩
/-- An event's cells where the law makes it. -/
def MkAt (base g k : Nat) (w : World) (s : EvS) : Prop :=
  ∃ vp u x, w.heap[g]? = some (.cells #[.int .i64 k, .int .i64 s.a, .int .i64 s.b, .int .i64 s.id, vp, .string (str s.node.name), .int .i64 s.node.cpu, .int .i64 s.node.mem, u, x, .bool s.node.closed] 34 (0, 0)) ∧
    PodsT base w vp s.pods ∧ Strs base w u (s.node.marks.map str) ∧ Strs base w x (s.node.taints.map str)
theorem set_node {w : World} {g : Nat} {T : TypeId} {k0 a0 b0 i0 vp x5 x6 x7 x8 x9 x10 : Value} (a' nm cp mm u x cl : Value) (h : w.heap[g]? = some (.cells #[k0, a0, b0, i0, vp, x5, x6, x7, x8, x9, x10] T (0, 0))) :
    (((((((w.setCell ⟨g, 1, none⟩ a').setCell ⟨g, 5, none⟩ nm).setCell ⟨g, 6, none⟩ cp).setCell ⟨g, 7, none⟩ mm).setCell ⟨g, 8, none⟩ u).setCell ⟨g, 9, none⟩ x).setCell ⟨g, 10, none⟩ cl).heap[g]? = some (.cells #[k0, a', b0, i0, vp, nm, cp, mm, u, x, cl] T (0, 0)) ∧
    Gb g w (((((((w.setCell ⟨g, 1, none⟩ a').setCell ⟨g, 5, none⟩ nm).setCell ⟨g, 6, none⟩ cp).setCell ⟨g, 7, none⟩ mm).setCell ⟨g, 8, none⟩ u).setCell ⟨g, 9, none⟩ x).setCell ⟨g, 10, none⟩ cl) := by
  have h1 := (heap_setCell_same _ g 1 #[k0, a0, b0, i0, vp, x5, x6, x7, x8, x9, x10] T a' h : _ = some (Obj.cells #[k0, a', b0, i0, vp, x5, x6, x7, x8, x9, x10] T (0, 0)))
  have h2 := (heap_setCell_same _ g 5 #[k0, a', b0, i0, vp, x5, x6, x7, x8, x9, x10] T nm h1 : _ = some (Obj.cells #[k0, a', b0, i0, vp, nm, x6, x7, x8, x9, x10] T (0, 0)))
  have h3 := (heap_setCell_same _ g 6 #[k0, a', b0, i0, vp, nm, x6, x7, x8, x9, x10] T cp h2 : _ = some (Obj.cells #[k0, a', b0, i0, vp, nm, cp, x7, x8, x9, x10] T (0, 0)))
  have h4 := (heap_setCell_same _ g 7 #[k0, a', b0, i0, vp, nm, cp, x7, x8, x9, x10] T mm h3 : _ = some (Obj.cells #[k0, a', b0, i0, vp, nm, cp, mm, x8, x9, x10] T (0, 0)))
  have h5 := (heap_setCell_same _ g 8 #[k0, a', b0, i0, vp, nm, cp, mm, x8, x9, x10] T u h4 : _ = some (Obj.cells #[k0, a', b0, i0, vp, nm, cp, mm, u, x9, x10] T (0, 0)))
  have h6 := (heap_setCell_same _ g 9 #[k0, a', b0, i0, vp, nm, cp, mm, u, x9, x10] T x h5 : _ = some (Obj.cells #[k0, a', b0, i0, vp, nm, cp, mm, u, x, x10] T (0, 0)))
  have h7 := (heap_setCell_same _ g 10 #[k0, a', b0, i0, vp, nm, cp, mm, u, x, x10] T cl h6 : _ = some (Obj.cells #[k0, a', b0, i0, vp, nm, cp, mm, u, x, cl] T (0, 0)))
  exact ⟨h7,
    ((((((Gb.set w g 1 _).trans (Gb.set _ g 5 _)).trans (Gb.set _ g 6 _)).trans (Gb.set _ g 7 _)).trans (Gb.set _ g 8 _)).trans (Gb.set _ g 9 _)).trans (Gb.set _ g 10 _)⟩
set_option maxHeartbeats 8000000 in
set_option maxRecDepth 1000000 in
theorem make_any (kd a b : Int) (v : Value) (ps : List Int) (n : Int) (w : World) (hn : Nums w v ps) : Calls Tryz.prog 5 #[.int .i64 kd, .int .i64 a, .int .i64 b, v, .int .i64 n] w fun e w' => ∃ ev, e = .returned (.tuple #[ev, ev]) ∧ EvR w.heap.size w' ev (evQ kd a b ps n).kind (evSof (evQ kd a b ps n)) ∧ Below w.heap.size w w' := by
  have HN := Lib.hid hn
  obtain ⟨pa, pc, rfl, hnl, _⟩ := hn
  have hk1 := Int.emod_nonneg kd (show (11 : Int) ≠ 0 by decide)
  have hk2 := Int.emod_lt_of_pos kd (show (0 : Int) < 11 by decide)
  go_enter Tryz.func5, Tryz.ntmps5
  go_wp2_with fail
  refine (within15_any kd 11 (by omega) (by omega) _).mono ?_
  rintro e w1 ⟨rfl, rfl⟩
  obtain ⟨k, hk⟩ : ∃ k : Nat, 1 + kd % 11 = k := ⟨(1 + kd % 11).toNat, by omega⟩
  have hkk : kd % 11 = (k : Int) - 1 := by omega
  rw [hkk]
  have kr : IntKind.i64.wrap (1 + ((k : Int) - 1)) = (k : Int) := by rw [show 1 + ((k : Int) - 1) = k by omega]; exact kwid (by omega) (by omega)
  have hkl : 1 ≤ k := by omega
  have hkh : k ≤ 11 := by omega
  have HK := Lib.hid hk
  clear hk hkk hk1 hk2
  go_upto_region 2 with fail
  have hb3 : Below w.heap.size w (((w.alloc (.cells #[.int .i64 0, .int .i64 0, .int .i64 0, .int .i64 0, .slice none 0 0, .string ⟨#[]⟩, .int .i64 0, .int .i64 0, .slice none 0 0, .slice none 0 0, .bool false] 33)).alloc (.cells #[.int .i64 0, .int .i64 0, .int .i64 0, .int .i64 0, .slice none 0 0, .string ⟨#[]⟩, .int .i64 0, .int .i64 0, .slice none 0 0, .slice none 0 0, .bool false] 34)).alloc (.cells #[.int .i64 k, .int .i64 0, .int .i64 0, .int .i64 0, .slice none 0 0, .string ⟨#[]⟩, .int .i64 0, .int .i64 0, .slice none 0 0, .slice none 0 0, .bool false] 34)) := below_alloc' (below_alloc' (below_alloc' (Below.refl _ _) _) _) _
  have z2 : (((w.alloc (.cells #[.int .i64 0, .int .i64 0, .int .i64 0, .int .i64 0, .slice none 0 0, .string ⟨#[]⟩, .int .i64 0, .int .i64 0, .slice none 0 0, .slice none 0 0, .bool false] 33)).alloc (.cells #[.int .i64 0, .int .i64 0, .int .i64 0, .int .i64 0, .slice none 0 0, .string ⟨#[]⟩, .int .i64 0, .int .i64 0, .slice none 0 0, .slice none 0 0, .bool false] 34)).alloc (.cells #[.int .i64 k, .int .i64 0, .int .i64 0, .int .i64 0, .slice none 0 0, .string ⟨#[]⟩, .int .i64 0, .int .i64 0, .slice none 0 0, .slice none 0 0, .bool false] 34)).heap[w.heap.size + 1 + 1]? = some (.cells #[.int .i64 k, .int .i64 0, .int .i64 0, .int .i64 0, .slice none 0 0, .string ⟨#[]⟩, .int .i64 0, .int .i64 0, .slice none 0 0, .slice none 0 0, .bool false] 34 (0, 0)) := alloc_is (by simp) _
  have z1 : (((w.alloc (.cells #[.int .i64 0, .int .i64 0, .int .i64 0, .int .i64 0, .slice none 0 0, .string ⟨#[]⟩, .int .i64 0, .int .i64 0, .slice none 0 0, .slice none 0 0, .bool false] 33)).alloc (.cells #[.int .i64 0, .int .i64 0, .int .i64 0, .int .i64 0, .slice none 0 0, .string ⟨#[]⟩, .int .i64 0, .int .i64 0, .slice none 0 0, .slice none 0 0, .bool false] 34)).alloc (.cells #[.int .i64 k, .int .i64 0, .int .i64 0, .int .i64 0, .slice none 0 0, .string ⟨#[]⟩, .int .i64 0, .int .i64 0, .slice none 0 0, .slice none 0 0, .bool false] 34)).heap[w.heap.size + 1]? = some (.cells #[.int .i64 0, .int .i64 0, .int .i64 0, .int .i64 0, .slice none 0 0, .string ⟨#[]⟩, .int .i64 0, .int .i64 0, .slice none 0 0, .slice none 0 0, .bool false] 34 (0, 0)) := block_below (alloc_is (by simp) _) (below_alloc' (Below.refl _ _) _)
  have z0 : (((w.alloc (.cells #[.int .i64 0, .int .i64 0, .int .i64 0, .int .i64 0, .slice none 0 0, .string ⟨#[]⟩, .int .i64 0, .int .i64 0, .slice none 0 0, .slice none 0 0, .bool false] 33)).alloc (.cells #[.int .i64 0, .int .i64 0, .int .i64 0, .int .i64 0, .slice none 0 0, .string ⟨#[]⟩, .int .i64 0, .int .i64 0, .slice none 0 0, .slice none 0 0, .bool false] 34)).alloc (.cells #[.int .i64 k, .int .i64 0, .int .i64 0, .int .i64 0, .slice none 0 0, .string ⟨#[]⟩, .int .i64 0, .int .i64 0, .slice none 0 0, .slice none 0 0, .bool false] 34)).heap[w.heap.size]? = some (.cells #[.int .i64 0, .int .i64 0, .int .i64 0, .int .i64 0, .slice none 0 0, .string ⟨#[]⟩, .int .i64 0, .int .i64 0, .slice none 0 0, .slice none 0 0, .bool false] 33 (0, 0)) := block_below (block_below (alloc_at _ _) (below_alloc' (Below.refl _ _) _)) (below_alloc' (Below.refl _ _) _)
  generalize World.alloc (World.alloc (World.alloc w _) _) _ = w3 at hb3 z0 z1 z2 ⊢
  have c0 := cell_of_block z2 0 _ rfl
  have HB3 := Lib.hid hb3
  have Z0 := Lib.hid z0
  have Z1 := Lib.hid z1
  have Z2 := Lib.hid z2
  clear hb3 z0 z1 z2 kr
  go_upto_block 0 with fail
  obtain ⟨K, hK⟩ : ∃ K, (evQ kd a b ps n).kind = K := ⟨_, rfl⟩
  obtain ⟨S, hS⟩ : ∃ S, evSof (evQ kd a b ps n) = S := ⟨_, rfl⟩
  go_cut [] (fun wx => MkAt w.heap.size (w.heap.size + 1 + 1) (evQ kd a b ps n).kind wx (evSof (evQ kd a b ps n)) ∧ Below w.heap.size w wx ∧ wx.heap[w.heap.size]? = some (.cells #[.int .i64 0, .int .i64 0, .int .i64 0, .int .i64 0, .slice none 0 0, .string ⟨#[]⟩, .int .i64 0, .int .i64 0, .slice none 0 0, .slice none 0 0, .bool false] 33 (0, 0)) ∧ wx.heap[w.heap.size + 1]? = some (.cells #[.int .i64 0, .int .i64 0, .int .i64 0, .int .i64 0, .slice none 0 0, .string ⟨#[]⟩, .int .i64 0, .int .i64 0, .slice none 0 0, .slice none 0 0, .bool false] 34 (0, 0)))
  case first =>
    have hg0 : Gb (w.heap.size + 1 + 1) w3 w3 := Gb.refl _ _
    clear hK hS
    by_cases h1 : k = 1
    · subst h1
      have hE : evQ kd a b ps n = ⟨1, 0, 0, (a % 1000000).toNat, if b % 9 = 0 then [] else gangQ a ps 4, noNode⟩ := by unfold evQ; rw [HK.out]; rfl
      have HE := Lib.hid hE
      have ha1 := Int.emod_nonneg a (show (1000000 : Int) ≠ 0 by decide)
      obtain ⟨na, hna⟩ : ∃ na : Nat, a % 1000000 = na := ⟨(a % 1000000).toNat, by omega⟩
      have HNA := Lib.hid hna
      clear hE hna ha1 hg0
      go_wp2_with fail
      refine (lgang_any a _ ps w3 (HN.out.below HB3.out)).mono ?_
      rintro e w4 ⟨u, rfl, hp, hb4⟩
      obtain ⟨cu, hown, _⟩ := id hp
      obtain ⟨ua, uc, rfl⟩ := own_slicen hown
      obtain ⟨lu, hlu⟩ : ∃ l, (gangQ a ps 4).length = l := ⟨_, rfl⟩
      rw [hlu] at hp ⊢
      clear hown hlu
      have hz4 := block_below Z2.out hb4
      have c3 := cell_of_block hz4 3 _ rfl
      have c4 := cell_of_block hz4 4 _ rfl
      have fz := fun j => free_of_block hz4 j
      have hz5 := heap_setCell_same _ _ 4 _ _ (.slice ua lu uc) (heap_setCell_same _ _ 3 _ _ (.int .i64 (1 + a % 999999)) hz4)
      have hg5 := ((Gb.of_below (g := w.heap.size + 1 + 1) hb4).trans (Gb.set w4 _ 3 (.int .i64 (1 + a % 999999)))).trans (Gb.set _ _ 4 (.slice ua lu uc))
      have hp5 := ((hp.base HB3.out.size).set hz4 (by decide) (by decide) (Gb.set w4 _ 3 (.int .i64 (1 + a % 999999)))).set (heap_setCell_same _ _ 3 _ _ (.int .i64 (1 + a % 999999)) hz4) (by decide) (by decide) (Gb.set _ _ 4 (.slice ua lu uc))
      have HZ5 := Lib.hid hz5
      have HG5 := Lib.hid hg5
      have HP5 := Lib.hid hp5
      clear hp hb4 hz4 hz5 hg5 hp5
      go_wp2_with fail
      refine (within15_any a 1000000 (by omega) (by omega) _).mono ?_
      rintro e wx ⟨rfl, rfl⟩
      clear c3 c4 fz
      generalize World.setCell (World.setCell w4 _ _) _ _ = w5 at HZ5 HG5 HP5 ⊢
      rw [HNA.out]
      have c3 := cell_of_block HZ5.out 3 _ rfl
      have fz := fun j => free_of_block HZ5.out j
      have HZ6 := Lib.hid (heap_setCell_same _ _ 3 _ _ (.int .i64 na) HZ5.out)
      have HG6 := Lib.hid (HG5.out.trans (Gb.set w5 _ 3 (.int .i64 na)))
      have HP6 := Lib.hid (HP5.out.set HZ5.out (by decide) (by decide) (Gb.set w5 _ 3 (.int .i64 na)))
      go_wp2_with fail
      refine (within15_any b 9 (by omega) (by omega) _).mono ?_
      rintro e wx ⟨rfl, rfl⟩
      clear c3 fz HZ5 HG5 HP5
      generalize World.setCell w5 _ _ = w6 at HZ6 HG6 HP6 ⊢
      have hna : (a % 1000000).toNat = na := by have := HNA.out; omega
      obtain ⟨r, hr⟩ : ∃ r, b % 9 = r := ⟨_, rfl⟩
      rw [hr]
      have HR := Lib.hid hr
      have HNN := Lib.hid hna
      clear hr hna
      have c4 := cell_of_block HZ6.out 4 _ rfl
      have fz := fun j => free_of_block HZ6.out j
      by_cases h9 : r = 0
      · subst h9
        go_wp2_with fail
        go_meet
        rw [HE.out, if_pos HR.out]
        refine ⟨⟨.slice none 0 0, .slice none 0 0, .slice none 0 0, ?_, PodsT.nil _ _, World.ownsRow_nil _ _ _ _, World.ownsRow_nil _ _ _ _⟩, ?_, ?_, ?_⟩
        · refine (heap_setCell_same _ _ 4 _ _ (.slice none 0 0) HZ6.out).trans ?_
          simp only [evSof, HNN.out]
          rfl
        · exact Gb.below HB3.out (HG6.out.trans (Gb.set w6 _ 4 _)) (by omega) HB3.out.size
        · exact Gb.block' (HG6.out.trans (Gb.set w6 _ 4 _)) Z0.out (by omega)
        · exact Gb.block' (HG6.out.trans (Gb.set w6 _ 4 _)) Z1.out (by omega)
      · have hr9 : ¬ b % 9 = 0 := by rw [HR.out]; exact h9
        have HR9 := Lib.hid hr9
        have hrb : (r == 0) = false := beq_eq_false_iff_ne.2 h9
        clear hr9
        go_wp2_with fail
        go_meet
        rw [HE.out, if_neg HR9.out]
        refine ⟨⟨.slice ua lu uc, .slice none 0 0, .slice none 0 0, ?_, HP6.out, World.ownsRow_nil _ _ _ _, World.ownsRow_nil _ _ _ _⟩, ?_, ?_, ?_⟩
        · refine HZ6.out.trans ?_
          simp only [evSof, HNN.out]
          rfl
        · exact Gb.below HB3.out HG6.out (by omega) HB3.out.size
        · exact Gb.block' HG6.out Z0.out (by omega)
        · exact Gb.block' HG6.out Z1.out (by omega)
    · have b1 : ((k : Int) == 1) = false := beq_eq_false_iff_ne.2 (by omega)
      by_cases h4 : k = 4
      · subst h4
        have hE : evQ kd a b ps n = ⟨4, (a % 9).toNat, 0, 0, [], nodeQ b n⟩ := by unfold evQ; rw [HK.out]; rfl
        have HE := Lib.hid hE
        have ha1 := Int.emod_nonneg a (show (9 : Int) ≠ 0 by decide)
        obtain ⟨na, hna⟩ : ∃ na : Nat, a % 9 = na := ⟨(a % 9).toNat, by omega⟩
        have HNA := Lib.hid hna
        clear hE hna ha1 hg0
        go_wp2_with fail
        refine (within15_any a 9 (by omega) (by omega) _).mono ?_
        rintro e wx ⟨rfl, rfl⟩
        rw [HNA.out]
        go_wp2_with fail
        refine (lnode_any b n _).mono ?_
        rintro e w4 ⟨nv, rfl, ⟨u, x, rfl, hu, hx⟩, hb4⟩
        obtain ⟨ua, lu, uc, rfl⟩ := own_slice hu
        obtain ⟨xa, lx, xc, rfl⟩ := own_slice hx
        obtain ⟨N, hN⟩ : ∃ N, nodeQ b n = N := ⟨_, rfl⟩
        rw [hN] at hu hx ⊢
        have hz4 := block_below Z2.out hb4
        have fz := fun j => free_of_block hz4 j
        have c1 := cell_of_block hz4 1 _ rfl
        have c5 := cell_of_block hz4 5 _ rfl
        have c6 := cell_of_block hz4 6 _ rfl
        have c7 := cell_of_block hz4 7 _ rfl
        have c8 := cell_of_block hz4 8 _ rfl
        have c9 := cell_of_block hz4 9 _ rfl
        have c10 := cell_of_block hz4 10 _ rfl
        have HZ4 := Lib.hid hz4
        have HU := Lib.hid hu
        have HX := Lib.hid hx
        have HB4 := Lib.hid hb4
        have HNQ := Lib.hid hN
        clear hz4 hu hx hb4 hN
        go_wp2_with fail
        go_meet
        clear c1 c5 c6 c7 c8 c9 c10 fz
        obtain ⟨hz5, hg5⟩ := set_node (.int .i64 na) (.string (str N.name)) (.int .i64 N.cpu) (.int .i64 N.mem) (.slice ua lu uc) (.slice xa lx xc) (.bool N.closed) HZ4.out
        generalize World.setCell (World.setCell (World.setCell (World.setCell (World.setCell (World.setCell (World.setCell w4 _ _) _ _) _ _) _ _) _ _) _ _) _ _ = w5 at hz5 hg5 ⊢
        have hg := (Gb.of_below (g := w.heap.size + 1 + 1) HB4.out).trans hg5
        have hna : (a % 9).toNat = na := by have := HNA.out; omega
        rw [HE.out]
        refine ⟨⟨.slice none 0 0, .slice ua lu uc, .slice xa lx xc, ?_, PodsT.nil _ _, ?_, ?_⟩, ?_, ?_, ?_⟩
        · refine hz5.trans ?_
          simp only [evSof, hna, HNQ.out]
          rfl
        · simp only [evSof, HNQ.out]
          exact own_gbx (own_base HU.out HB3.out.size) HZ4.out (by decide) hg5
        · simp only [evSof, HNQ.out]
          exact own_gbx (own_base HX.out HB3.out.size) HZ4.out (by decide) hg5
        · exact Gb.below HB3.out hg (by omega) HB3.out.size
        · exact Gb.block' hg Z0.out (by omega)
        · exact Gb.block' hg Z1.out (by omega)
      · have b4 : ((k : Int) == 4) = false := beq_eq_false_iff_ne.2 (by omega)
        by_cases h5 : k = 5
        · subst h5
          have hE : evQ kd a b ps n = ⟨5, (a % 9).toNat, 0, 0, [], ⟨nameQ b, 0, 0, [], [], false⟩⟩ := by unfold evQ; rw [HK.out]; rfl
          have HE := Lib.hid hE
          have ha1 := Int.emod_nonneg a (show (9 : Int) ≠ 0 by decide)
          obtain ⟨na, hna⟩ : ∃ na : Nat, a % 9 = na := ⟨(a % 9).toNat, by omega⟩
          have HNA := Lib.hid hna
          clear hE hna ha1 hg0
          go_wp2_with fail
          refine (within15_any a 9 (by omega) (by omega) _).mono ?_
          rintro e wx ⟨rfl, rfl⟩
          rw [HNA.out]
          have c1 := cell_of_block Z2.out 1 _ rfl
          have fz := fun j => free_of_block Z2.out j
          go_wp2_with fail
          refine (lname8_any b _).mono ?_
          rintro e w4 ⟨rfl, hb4⟩
          rw [nameOf_Q]
          obtain ⟨zn, hzn⟩ : ∃ z, str (nameQ b) = z := ⟨_, rfl⟩
          rw [hzn]
          have HZN := Lib.hid hzn
          have hz4 := block_below (heap_setCell_same _ _ 1 _ _ (.int .i64 na) Z2.out) hb4
          have HG4 := Lib.hid ((Gb.set w3 (w.heap.size + 1 + 1) 1 (.int .i64 na)).trans (Gb.of_below hb4))
          clear hzn hb4 c1 fz
          have c5 := cell_of_block hz4 5 _ rfl
          have fz := fun j => free_of_block hz4 j
          have HZ4 := Lib.hid hz4
          clear hz4
          go_wp2_with fail
          go_meet
          have hg := HG4.out.trans (Gb.set w4 (w.heap.size + 1 + 1) 5 (.string zn))
          have hna : (a % 9).toNat = na := by have := HNA.out; omega
          rw [HE.out]
          refine ⟨⟨.slice none 0 0, .slice none 0 0, .slice none 0 0, ?_, PodsT.nil _ _, World.ownsRow_nil _ _ _ _, World.ownsRow_nil _ _ _ _⟩, ?_, ?_, ?_⟩
          · refine (heap_setCell_same _ _ 5 _ _ (.string zn) HZ4.out).trans ?_
            simp only [evSof, hna, HZN.out]
            rfl
          · exact Gb.below HB3.out hg (by omega) HB3.out.size
          · exact Gb.block' hg Z0.out (by omega)
          · exact Gb.block' hg Z1.out (by omega)
        · have b5 : ((k : Int) == 5) = false := beq_eq_false_iff_ne.2 (by omega)
          have ha1 := Int.emod_nonneg a (show (1000000 : Int) ≠ 0 by decide)
          obtain ⟨na, hna⟩ : ∃ na : Nat, a % 1000000 = na := ⟨(a % 1000000).toNat, by omega⟩
          have HNA := Lib.hid hna
          clear hna ha1 hg0
          by_cases h10 : k = 10
          · subst h10
            have hE : evQ kd a b ps n = ⟨10, (a % 1000000).toNat, (b % 1000000).toNat, 0, [], noNode⟩ := by unfold evQ; rw [HK.out]; rfl
            have HE := Lib.hid hE
            have hb1 := Int.emod_nonneg b (show (1000000 : Int) ≠ 0 by decide)
            obtain ⟨nb, hnb⟩ : ∃ nb : Nat, b % 1000000 = nb := ⟨(b % 1000000).toNat, by omega⟩
            have HNB := Lib.hid hnb
            clear hE hnb hb1
            go_wp2_with fail
            refine (within15_any a 1000000 (by omega) (by omega) _).mono ?_
            rintro e wx ⟨rfl, rfl⟩
            rw [HNA.out]
            go_wp2_with fail
            refine (within15_any b 1000000 (by omega) (by omega) _).mono ?_
            rintro e wx ⟨rfl, rfl⟩
            rw [HNB.out]
            have c1 := cell_of_block Z2.out 1 _ rfl
            have c2 := cell_of_block Z2.out 2 _ rfl
            have fz := fun j => free_of_block Z2.out j
            go_wp2_with fail
            go_meet
            have hg := (Gb.set w3 (w.heap.size + 1 + 1) 1 (.int .i64 na)).trans (Gb.set _ _ 2 (.int .i64 nb))
            have hna : (a % 1000000).toNat = na := by have := HNA.out; omega
            have hnb : (b % 1000000).toNat = nb := by have := HNB.out; omega
            rw [HE.out]
            refine ⟨⟨.slice none 0 0, .slice none 0 0, .slice none 0 0, ?_, PodsT.nil _ _, World.ownsRow_nil _ _ _ _, World.ownsRow_nil _ _ _ _⟩, ?_, ?_, ?_⟩
            · refine (heap_setCell_same _ _ 2 _ _ (.int .i64 nb) (heap_setCell_same _ _ 1 _ _ (.int .i64 na) Z2.out)).trans ?_
              simp only [evSof, hna, hnb]
              rfl
            · exact Gb.below HB3.out hg (by omega) HB3.out.size
            · exact Gb.block' hg Z0.out (by omega)
            · exact Gb.block' hg Z1.out (by omega)
          · have b10 : ((k : Int) == 10) = false := beq_eq_false_iff_ne.2 (by omega)
            have hE : evQ kd a b ps n = ⟨k, (a % 1000000).toNat, 0, 0, [], noNode⟩ := by
              have hkt : (1 + kd % 11).toNat = k := by have := HK.out; omega
              unfold evQ
              rw [hkt]
              simp only [if_neg h1, if_neg h4, if_neg h5, if_neg h10]
            have HE := Lib.hid hE
            clear hE
            go_wp2_with fail
            refine (within15_any a 1000000 (by omega) (by omega) _).mono ?_
            rintro e wx ⟨rfl, rfl⟩
            rw [HNA.out]
            have c1 := cell_of_block Z2.out 1 _ rfl
            have fz := fun j => free_of_block Z2.out j
            go_wp2_with fail
            go_meet
            have hg := (Gb.set w3 (w.heap.size + 1 + 1) 1 (.int .i64 na))
            have hna : (a % 1000000).toNat = na := by have := HNA.out; omega
            rw [HE.out]
            refine ⟨⟨.slice none 0 0, .slice none 0 0, .slice none 0 0, ?_, PodsT.nil _ _, World.ownsRow_nil _ _ _ _, World.ownsRow_nil _ _ _ _⟩, ?_, ?_, ?_⟩
            · refine (heap_setCell_same _ _ 1 _ _ (.int .i64 na) Z2.out).trans ?_
              simp only [evSof, hna]
              rfl
            · exact Gb.below HB3.out hg (by omega) HB3.out.size
            · exact Gb.block' hg Z0.out (by omega)
            · exact Gb.block' hg Z1.out (by omega)
  case rest =>
    obtain ⟨⟨vp, u, x, hz, hp, hu, hx⟩, hb, hz0, hz1⟩ := hcut
    clear HB3 Z0 Z1 Z2
    obtain ⟨E, hE⟩ : ∃ E, (evQ kd a b ps n).kind = E := ⟨_, rfl⟩
    obtain ⟨S, hS⟩ : ∃ S, evSof (evQ kd a b ps n) = S := ⟨_, rfl⟩
    rw [hS] at hz hp hu hx
    rw [hE] at hz
    have HE := Lib.hid hE
    have HS := Lib.hid hS
    obtain ⟨cp, hown, _⟩ := id hp
    obtain ⟨va, vc, rfl⟩ := own_slicen hown
    obtain ⟨vl, hvl⟩ : ∃ z, S.pods.length = z := ⟨_, rfl⟩
    rw [hvl] at hz hp
    obtain ⟨ua, ul, uc, rfl⟩ := own_slice hu
    obtain ⟨xa, xl, xc, rfl⟩ := own_slice hx
    obtain ⟨zn, hzn⟩ : ∃ z, str S.node.name = z := ⟨_, rfl⟩
    rw [hzn] at hz
    have HZN := Lib.hid hzn
    have HP := Lib.hid hp
    have HU := Lib.hid hu
    have HX := Lib.hid hx
    have HB := Lib.hid hb
    have Z0 := Lib.hid hz0
    have Z1 := Lib.hid hz1
    have Z2 := Lib.hid hz
    clear hp hu hx hb hz0 hz1 hz hzn hown hE hS hvl hK HK HN
    go_upto_region 16 with fail
    have f0 := fun j => free_of_block Z0.out j
    have f1 := fun j => free_of_block Z1.out j
    have c0 := cell_of_block Z2.out 0 _ rfl
    have a0 := cell_of_block Z0.out 0 _ rfl
    have b0 := cell_of_block Z1.out 0 _ rfl
    have c1 := cell_of_block Z2.out 1 _ rfl
    have a1 := cell_of_block Z0.out 1 _ rfl
    have b1 := cell_of_block Z1.out 1 _ rfl
    have c2 := cell_of_block Z2.out 2 _ rfl
    have a2 := cell_of_block Z0.out 2 _ rfl
    have b2 := cell_of_block Z1.out 2 _ rfl
    have c3 := cell_of_block Z2.out 3 _ rfl
    have a3 := cell_of_block Z0.out 3 _ rfl
    have b3 := cell_of_block Z1.out 3 _ rfl
    have c4 := cell_of_block Z2.out 4 _ rfl
    have a4 := cell_of_block Z0.out 4 _ rfl
    have b4 := cell_of_block Z1.out 4 _ rfl
    have c5 := cell_of_block Z2.out 5 _ rfl
    have a5 := cell_of_block Z0.out 5 _ rfl
    have b5 := cell_of_block Z1.out 5 _ rfl
    have c6 := cell_of_block Z2.out 6 _ rfl
    have a6 := cell_of_block Z0.out 6 _ rfl
    have b6 := cell_of_block Z1.out 6 _ rfl
    have c7 := cell_of_block Z2.out 7 _ rfl
    have a7 := cell_of_block Z0.out 7 _ rfl
    have b7 := cell_of_block Z1.out 7 _ rfl
    have c8 := cell_of_block Z2.out 8 _ rfl
    have a8 := cell_of_block Z0.out 8 _ rfl
    have b8 := cell_of_block Z1.out 8 _ rfl
    have c9 := cell_of_block Z2.out 9 _ rfl
    have a9 := cell_of_block Z0.out 9 _ rfl
    have b9 := cell_of_block Z1.out 9 _ rfl
    have c10 := cell_of_block Z2.out 10 _ rfl
    have a10 := cell_of_block Z0.out 10 _ rfl
    have b10 := cell_of_block Z1.out 10 _ rfl
    go_region
    clear a0 b0 c0 a1 b1 c1 a2 b2 c2 a3 b3 c3 a4 b4 c4 a5 b5 c5 a6 b6 c6 a7 b7 c7 a8 b8 c8 a9 b9 c9 a10 b10 c10 f0 f1
    go_wp2
    have g0 := sets11 (.int .i64 E) (.int .i64 S.a) (.int .i64 S.b) (.int .i64 S.id) (.slice va vl vc) (.string zn) (.int .i64 S.node.cpu) (.int .i64 S.node.mem) (.slice ua ul uc) (.slice xa xl xc) (.bool S.node.closed) Z0.out
    have q0 := Gb.sets w.heap.size [.int .i64 E, .int .i64 S.a, .int .i64 S.b, .int .i64 S.id, .slice va vl vc, .string zn, .int .i64 S.node.cpu, .int .i64 S.node.mem, .slice ua ul uc, .slice xa xl xc, .bool S.node.closed] 0 wc
    have p0 := HP.out.set Z0.out (by decide) (by decide) q0
    have u0 := own_gbx HU.out Z0.out (by decide) q0
    have x0 := own_gbx HX.out Z0.out (by decide) q0
    have z1 := Gb.block' q0 Z1.out (by omega)
    have h0 := Gb.below HB.out q0 (Nat.le_refl _) HB.out.size
    obtain ⟨W1, hW1⟩ : ∃ W1, wc.setCells w.heap.size 0 [.int .i64 E, .int .i64 S.a, .int .i64 S.b, .int .i64 S.id, .slice va vl vc, .string zn, .int .i64 S.node.cpu, .int .i64 S.node.mem, .slice ua ul uc, .slice xa xl xc, .bool S.node.closed] = W1 := ⟨_, rfl⟩
    rw [hW1] at g0 q0 p0 u0 x0 z1 h0
    have g2 := sets11 (.int .i64 E) (.int .i64 S.a) (.int .i64 S.b) (.int .i64 S.id) (.slice va vl vc) (.string zn) (.int .i64 S.node.cpu) (.int .i64 S.node.mem) (.slice ua ul uc) (.slice xa xl xc) (.bool S.node.closed) z1
    have q2 := Gb.sets (w.heap.size + 1) [.int .i64 E, .int .i64 S.a, .int .i64 S.b, .int .i64 S.id, .slice va vl vc, .string zn, .int .i64 S.node.cpu, .int .i64 S.node.mem, .slice ua ul uc, .slice xa xl xc, .bool S.node.closed] 0 W1
    have p2 := p0.set z1 (by decide) (by decide) q2
    have u2 := own_gbx u0 z1 (by decide) q2
    have x2 := own_gbx x0 z1 (by decide) q2
    have g3 := Gb.block' q2 g0 (by omega)
    have h2 := Gb.below h0 q2 (by omega) h0.size
    obtain ⟨W2, hW2⟩ : ∃ W2, W1.setCells (w.heap.size + 1) 0 [.int .i64 E, .int .i64 S.a, .int .i64 S.b, .int .i64 S.id, .slice va vl vc, .string zn, .int .i64 S.node.cpu, .int .i64 S.node.mem, .slice ua ul uc, .slice xa xl xc, .bool S.node.closed] = W2 := ⟨_, rfl⟩
    rw [hW2] at g2 q2 p2 u2 x2 g3 h2
    rw [← hW1] at hW2
    refine bp_at (congrArg World.drew hW2) ?_
    clear hW2 hW1 g0 h0 p0 u0 x0 z1 q0 q2
    replace g3 : W2.drew.heap[w.heap.size]? = _ := g3
    replace g2 : W2.drew.heap[w.heap.size + 1]? = _ := g2
    replace h2 := h2.drew
    replace p2 : PodsT w.heap.size W2.drew (.slice va vl vc) S.pods := p2
    replace u2 : Strs w.heap.size W2.drew (.slice ua ul uc) _ := u2
    replace x2 : Strs w.heap.size W2.drew (.slice xa xl xc) _ := x2
    generalize W2.drew = W3 at g3 g2 h2 p2 u2 x2 ⊢
    have k0 := cell_of_block g3 0 _ rfl
    have l0 := cell_of_block g2 0 _ rfl
    have k1 := cell_of_block g3 1 _ rfl
    have l1 := cell_of_block g2 1 _ rfl
    have k2 := cell_of_block g3 2 _ rfl
    have l2 := cell_of_block g2 2 _ rfl
    have k3 := cell_of_block g3 3 _ rfl
    have l3 := cell_of_block g2 3 _ rfl
    have k4 := cell_of_block g3 4 _ rfl
    have l4 := cell_of_block g2 4 _ rfl
    have k5 := cell_of_block g3 5 _ rfl
    have l5 := cell_of_block g2 5 _ rfl
    have k6 := cell_of_block g3 6 _ rfl
    have l6 := cell_of_block g2 6 _ rfl
    have k7 := cell_of_block g3 7 _ rfl
    have l7 := cell_of_block g2 7 _ rfl
    have k8 := cell_of_block g3 8 _ rfl
    have l8 := cell_of_block g2 8 _ rfl
    have k9 := cell_of_block g3 9 _ rfl
    have l9 := cell_of_block g2 9 _ rfl
    have k10 := cell_of_block g3 10 _ rfl
    have l10 := cell_of_block g2 10 _ rfl
    refine bodyPost_ret (v := .tuple #[.agg #[.int .i64 E, .int .i64 S.a, .int .i64 S.b, .int .i64 S.id, .slice va vl vc, .string zn, .int .i64 S.node.cpu, .int .i64 S.node.mem, .slice ua ul uc, .slice xa xl xc, .bool S.node.closed], .agg #[.int .i64 E, .int .i64 S.a, .int .i64 S.b, .int .i64 S.id, .slice va vl vc, .string zn, .int .i64 S.node.cpu, .int .i64 S.node.mem, .slice ua ul uc, .slice xa xl xc, .bool S.node.closed]]) (by simp [results, Tryz.results5, go_sem, k0, l0, k1, l1, k2, l2, k3, l3, k4, l4, k5, l5, k6, l6, k7, l7, k8, l8, k9, l9, k10, l10]) rfl ?_
    refine ⟨_, rfl, ⟨.slice va vl vc, .slice ua ul uc, .slice xa xl xc, ?_, ?_, ?_, ?_⟩, h2⟩
    · rw [HE.out, HS.out, HZN.out]
    · rw [HS.out]; exact p2
    · rw [HS.out]; exact u2
    · rw [HS.out]; exact x2
end Go.Proofs.YtikamehjeaoilaaGreatDoor
/-! What the law makes is written, and read as it was: plain. -/
set_option linter.unusedVariables false
set_option linter.unusedSimpArgs false
namespace Go.Proofs.YtikamehjeaoilaaGreatDoor
open Go.RowKit

theorem evWords_is (e : EvL) : evWords e = Lib.decDigits (if e.kind = 1 then e.id else e.a) :: restE e.kind (evSof e) := by
  obtain ⟨k, a, b, id, ps, d⟩ := e
  unfold evWords restE evSof
  by_cases h1 : k = 1
  · simp [h1]
  · by_cases h4 : k = 4
    · simp [h4]
    · by_cases h5 : k = 5
      · simp [h5]
      · by_cases h10 : k = 10
        · simp [h10]
        · simp [h1, h4, h5, h10]
theorem textE_T (e : EvL) : textE e.kind (evSof e) = evT e := by
  rw [textE_eq, evT, evWords_is, rowT_cons]
  rfl
theorem split_T {e : EvL} (h : e.good) : splitC 32 (textE e.kind (evSof e)) = verb e.kind :: evWords e := by
  rw [textE_T]
  exact splitC_row _ _ (not32_verb h.1 h.2.1) (not32_words h)
theorem numV_dec {n : Nat} (h : n ≤ 999999) : numV (Lib.decDigits n) = n := by
  have := numP_dec (most := 999999) (by omega) h
  rw [numV_of this, val_dec]
theorem podX_T {p : PodL} (h : p.good) : podX (podT p) = p ∧ podB (podT p) = true := by
  have := podP_T h
  exact ⟨podX_of this, by rw [← podB_is, this]; rfl⟩
theorem ev_back {e : EvL} (h : e.good) : kindS (textE e.kind (evSof e)) = e.kind ∧ evOk (textE e.kind (evSof e)) = true ∧ evS (textE e.kind (evSof e)) = evSof e := by
  have hs := split_T h
  obtain ⟨t, ht⟩ : ∃ t, textE e.kind (evSof e) = t := ⟨_, rfl⟩
  rw [ht] at hs ⊢
  have hk : kindS t = e.kind := by
    unfold kindS
    rw [hs]
    exact kindOf_verb h.1 h.2.1
  refine ⟨hk, ?_⟩
  unfold evOk evS
  rw [hk, hs]
  clear ht hs hk
  obtain ⟨k, a, b, id, ps, d⟩ := e
  obtain ⟨h1, h2, h3, h4, h5, h6, h7, h8, h9, h10, h11, h12⟩ := h
  simp only at *
  unfold evSof evWords
  by_cases k1 : k = 1
  · subst k1
    have q2 : two1 (verb 1 :: Lib.decDigits id :: ps.map podT) = 2 := partJ_a (by simp)
    have qa : (ps.map podT).all podB = true := by
      rw [List.all_map, List.all_eq_true]
      exact fun p hp => (podX_T (h6 p hp)).2
    have qm : (ps.map podT).map podX = ps := by
      rw [List.map_map]
      conv => rhs; rw [← List.map_id ps]
      exact List.map_congr_left fun p hp => (podX_T (h6 p hp)).1
    obtain rfl := h7 rfl
    obtain rfl := h9 (by decide)
    obtain rfl := h12 (by decide) (by decide)
    simp only [if_true]
    refine ⟨?_, ?_⟩
    · unfold twoOk
      rw [q2, ok_a, ok_p]
      simp [numP_dec (most := 999999) (by omega) h5, qa, partJ]
    · unfold twoE
      rw [q2]
      simp [partE, numV_dec h5, qm, evS0]
  · obtain ⟨rfl, rfl⟩ := h8 k1
    simp only [if_neg k1]
    by_cases k4 : k = 4
    · subst k4
      obtain rfl := h9 (by decide)
      have q2 : two1 [verb 4, Lib.decDigits a, nodeT d] = 2 := partJ_a (by simp)
      simp only [if_true]
      refine ⟨?_, ?_⟩
      · unfold twoOk
        rw [q2, ok_a, ok_n]
        simp [numP_dec (most := 999999) (by omega) h3, nodeW_T (h10 rfl), partJ]
      · unfold twoE
        rw [q2]
        simp [partE, numV_dec h3, nodeW_T (h10 rfl), evS0]
    · simp only [if_neg k4]
      by_cases k5 : k = 5
      · subst k5
        obtain rfl := h9 (by decide)
        obtain ⟨g1, g2⟩ := h11 rfl
        have q2 : two1 [verb 5, Lib.decDigits a, d.name] = 2 := partJ_a (by simp)
        simp only [if_true]
        refine ⟨?_, ?_⟩
        · unfold twoOk
          rw [q2, ok_a, ok_m]
          simp [numP_dec (most := 999999) (by omega) h3, g1, partJ]
        · unfold twoE
          rw [q2]
          conv => rhs; rw [g2]
          simp [partE, numV_dec h3, evS0, noNode]
      · simp only [if_neg k5]
        obtain rfl := h12 k4 k5
        by_cases k10 : k = 10
        · subst k10
          have q2 : two1 [verb 10, Lib.decDigits a, Lib.decDigits b] = 2 := partJ_a (by simp)
          simp only [if_true]
          refine ⟨?_, ?_⟩
          · unfold twoOk
            rw [q2, ok_a, ok_b]
            simp [numP_dec (most := 999999) (by omega) h3, numP_dec (most := 999999) (by omega) h4, partJ]
          · unfold twoE
            rw [q2]
            simp [partE, numV_dec h3, numV_dec h4, evS0]
        · simp only [if_neg k10]
          obtain rfl := h9 k10
          refine ⟨?_, ?_⟩
          · unfold oneOk
            simp [numP_dec (most := 999999) (by omega) h3, kindOf_verb h1 h2]
            omega
          · simp [numV_dec h3]
theorem rowT_few {c : UInt8} {m : Nat} : ∀ {ls : List (List UInt8)}, (∀ l ∈ ls, l.length ≤ m) → (rowT c ls).length ≤ ls.length * (m + 1)
  | [], _ => by simp [rowT]
  | l :: ls, h => by
    rw [rowT_cons, List.length_cons, List.length_append, List.length_cons, Nat.succ_mul]
    have h1 := h l (List.mem_cons_self ..)
    have h2 := rowT_few (c := c) (m := m) fun x hx => h x (List.mem_cons_of_mem _ hx)
    omega
theorem setQ_row (c : UInt8) (n : Int) : (rowT c (setQ n 4)).length ≤ 20 := by
  have h := setQ_few n 4 (by omega)
  have := rowT_few (c := c) h.2
  omega
theorem setI_row (c : UInt8) (n : Int) (q : Prop) [Decidable q] : (rowT c (if q then setQ n 4 else [])).length ≤ 20 := by
  split
  · exact setQ_row c n
  · simp [rowT]
theorem setI_len (n : Int) (q : Prop) [Decidable q] : (if q then setQ n 4 else []).length ≤ 4 := by
  split
  · exact (setQ_few n 4 (by omega)).1
  · simp
theorem nameQ_len (n : Int) : (nameQ n).length ≤ 16 := by
  have h1 := Int.emod_nonneg n (show (8 : Int) ≠ 0 by decide)
  have h2 := Int.emod_lt_of_pos n (show (0 : Int) < 8 by decide)
  unfold nameQ
  obtain h | h | h | h | h | h | h | h : (n % 8).toNat = 0 ∨ (n % 8).toNat = 1 ∨ (n % 8).toNat = 2 ∨ (n % 8).toNat = 3 ∨ (n % 8).toNat = 4 ∨ (n % 8).toNat = 5 ∨ (n % 8).toNat = 6 ∨ (n % 8).toNat = 7 := by omega
  all_goals (rw [h]; decide +kernel)
theorem vecT_len (a b : Nat) (ha : a ≤ 9223372036854775807) (hb : b ≤ 9223372036854775807) : (vecT a b).length ≤ 43 := by
  have h1 := dec_len' a ha
  have h2 := dec_len' b hb
  simp [vecT]
  omega
theorem flagT_len (f : Bool) : (flagT f).length ≤ 1 := by cases f <;> simp [flagT]
theorem podQ_len (at' : Nat) (n s : Int) (h0 : 0 < s) (h1 : s ≤ 4) : (podT (podQ at' n s)).length ≤ 200 ∧ (podQ at' n s).shard ≤ 999999 ∧ (podQ at' n s).cpu ≤ 1099511627776 ∧ (podQ at' n s).mem ≤ 1099511627776 := by
  have a2 := Int.emod_lt_of_pos n h0
  have a1 := Int.emod_nonneg n (show s ≠ 0 by omega)
  have b1 := Int.emod_lt_of_pos (qd n 4) (show (0 : Int) < 5 by decide)
  have b2 := Int.emod_lt_of_pos (qd n 20) (show (0 : Int) < 5 by decide)
  have e1 : (podQ at' n s).shard ≤ 999999 := by show (1 + n % s).toNat ≤ _; omega
  have e2 : (podQ at' n s).cpu ≤ 1099511627776 := by show (qd n 4 % 5).toNat ≤ _; omega
  have e3 : (podQ at' n s).mem ≤ 1099511627776 := by show (qd n 20 % 5).toNat ≤ _; omega
  refine ⟨?_, e1, e2, e3⟩
  have l1 := dec_len' (podQ at' n s).shard (by omega)
  have l2 := vecT_len (podQ at' n s).cpu (podQ at' n s).mem (by omega) (by omega)
  have l3 : (rowT 43 (podQ at' n s).picks).length ≤ 20 := setI_row 43 _ _
  have l4 : (rowT 126 (podQ at' n s).bears).length ≤ 20 := setI_row 126 _ _
  have l5 := flagT_len (podQ at' n s).alone
  have l6 : (podQ at' n s).name.length = 2 := rfl
  simp [podT, tailT]
  omega
theorem nodeQ_len (name n : Int) : (nodeT (nodeQ name n)).length ≤ 200 ∧ (nodeQ name n).cpu ≤ 12 ∧ (nodeQ name n).mem ≤ 12 ∧ (nodeQ name n).marks.length ≤ 4 ∧ (nodeQ name n).taints.length ≤ 4 := by
  have b1 := Int.emod_lt_of_pos n (show (0 : Int) < 12 by decide)
  have b2 := Int.emod_lt_of_pos (qd n 12) (show (0 : Int) < 12 by decide)
  have e2 : (nodeQ name n).cpu ≤ 12 := by show (n % 12).toNat ≤ _; omega
  have e3 : (nodeQ name n).mem ≤ 12 := by show (qd n 12 % 12).toNat ≤ _; omega
  refine ⟨?_, e2, e3, (setQ_few _ 4 (by omega)).1, setI_len _ _⟩
  have l2 := vecT_len (nodeQ name n).cpu (nodeQ name n).mem (by omega) (by omega)
  have l3 : (rowT 43 (nodeQ name n).marks).length ≤ 20 := setQ_row 43 _
  have l4 : (rowT 126 (nodeQ name n).taints).length ≤ 20 := setI_row 126 _ _
  have l5 := flagT_len (nodeQ name n).closed
  have l6 : (nodeQ name n).name.length ≤ 16 := nameQ_len _
  simp [nodeT, tailT]
  omega
theorem restE_few {e : EvL} (h : e.good) (hp : ∀ p ∈ e.pods, (podT p).length ≤ 200) (hl : e.pods.length ≤ 8) (hn : (nodeT e.node).length ≤ 200) (hm : e.node.name.length ≤ 16) :
    (restE e.kind (evSof e)).length ≤ 8 ∧ ∀ l ∈ restE e.kind (evSof e), l.length ≤ 200 := by
  have hb := dec_len' e.b (by have := h.2.2.2.1; omega)
  unfold restE evSof
  dsimp only
  split
  · refine ⟨by rw [List.length_map]; exact hl, fun l hl => ?_⟩
    obtain ⟨p, h1, rfl⟩ := List.mem_map.1 hl
    exact hp p h1
  · split
    · exact ⟨by simp, fun l hl => by obtain rfl := List.mem_singleton.1 hl; exact hn⟩
    · split
      · exact ⟨by simp, fun l hl => by obtain rfl := List.mem_singleton.1 hl; omega⟩
      · split
        · exact ⟨by simp, fun l hl => by obtain rfl := List.mem_singleton.1 hl; omega⟩
        · exact ⟨by simp, fun l hl => by simp at hl⟩
theorem evB_of {e : EvL} (h : e.good) (hp : ∀ p ∈ e.pods, (podT p).length ≤ 200 ∧ p.shard ≤ 999999 ∧ p.cpu ≤ 1099511627776 ∧ p.mem ≤ 1099511627776) (hl : e.pods.length ≤ 8)
    (hn : (nodeT e.node).length ≤ 200 ∧ e.node.cpu ≤ 12 ∧ e.node.mem ≤ 12 ∧ e.node.marks.length ≤ 4 ∧ e.node.taints.length ≤ 4) (hm : e.node.name.length ≤ 16) : EvB e.kind (evSof e) ∧ (textE e.kind (evSof e)).length ≤ 4000 := by
  have hr := restE_few h (fun p h => (hp p h).1) hl hn.1 hm
  have hw := rowT_few (c := 32) hr.2
  have hv := verb_len e.kind h.1 h.2.1
  have hd := dec_len' (if e.kind = 1 then e.id else e.a) (by have := h.2.2.1; have := h.2.2.2.2.1; split <;> omega)
  have ht : (textE e.kind (evSof e)).length ≤ 4000 := by
    rw [textE_eq]
    rw [List.length_append, List.length_cons, List.length_append]
    show (verb e.kind).length + ((Lib.decDigits (if e.kind = 1 then e.id else e.a)).length + (rowT 32 (restE e.kind (evSof e))).length + 1) ≤ 4000
    omega
  refine ⟨⟨h.2.2.1, h.2.2.2.1, h.2.2.2.2.1, fun p hq => ?_, ?_, ⟨?_, ?_, ?_, ?_, ?_⟩, by omega⟩, ht⟩
  · have := hp p hq
    exact ⟨this.2.1, this.2.2.1, this.2.2.2, by omega⟩
  · show e.pods.length ≤ _; omega
  · show e.node.cpu ≤ _; omega
  · show e.node.mem ≤ _; omega
  · show (nodeT e.node).length ≤ _; omega
  · show e.node.marks.length ≤ _; omega
  · show e.node.taints.length ≤ _; omega
theorem gangQ_few (gid : Int) (ns : List Int) : (gangQ gid ns 4).length ≤ 8 ∧ ∀ p ∈ gangQ gid ns 4, (podT p).length ≤ 200 ∧ p.shard ≤ 999999 ∧ p.cpu ≤ 1099511627776 ∧ p.mem ≤ 1099511627776 := by
  unfold gangQ
  split
  · refine ⟨by simp, fun p hp => ?_⟩
    obtain rfl := List.mem_singleton.1 hp
    exact podQ_len _ _ _ (by omega) (by omega)
  · refine ⟨by rw [podsQ_len]; omega, fun p hp => ?_⟩
    obtain ⟨i, hi, rfl⟩ := List.mem_map.1 hp
    exact podQ_len _ _ _ (by omega) (by omega)
theorem noNode_few : (nodeT noNode).length ≤ 200 ∧ noNode.cpu ≤ 12 ∧ noNode.mem ≤ 12 ∧ noNode.marks.length ≤ 4 ∧ noNode.taints.length ≤ 4 := by decide +kernel
theorem nameN_few (b : Int) : (nodeT ⟨nameQ b, 0, 0, [], [], false⟩).length ≤ 200 := by
  have := nameQ_len b
  have := vecT_len 0 0 (by omega) (by omega)
  have := flagT_len false
  simp [nodeT, tailT, rowT]
  omega
theorem evQ_B (kd a b : Int) (ps : List Int) (n : Int) : EvB (evQ kd a b ps n).kind (evSof (evQ kd a b ps n)) ∧ (textE (evQ kd a b ps n).kind (evSof (evQ kd a b ps n))).length ≤ 4000 := by
  refine evB_of (evQ_good kd a b ps n) ?_ ?_ ?_ ?_
  · intro p hp
    unfold evQ at hp
    dsimp only at hp
    split at hp
    · dsimp only at hp
      split at hp
      · simp at hp
      · exact (gangQ_few a ps).2 p hp
    · split at hp
      · simp at hp
      · split at hp
        · simp at hp
        · split at hp <;> simp at hp
  · unfold evQ
    dsimp only
    split
    · dsimp only
      split
      · simp
      · exact (gangQ_few a ps).1
    · split
      · simp
      · split
        · simp
        · split <;> simp
  · unfold evQ
    dsimp only
    split
    · exact noNode_few
    · split
      · exact nodeQ_len b n
      · split
        · exact ⟨nameN_few b, by simp, by simp, by simp, by simp⟩
        · split <;> exact noNode_few
  · unfold evQ
    dsimp only
    split
    · simp [noNode]
    · split
      · exact nameQ_len b
      · split
        · exact nameQ_len b
        · split <;> simp [noNode]
end Go.Proofs.YtikamehjeaoilaaGreatDoor
/-! A line that is read is of a good event: plain. -/
set_option linter.unusedVariables false
set_option linter.unusedSimpArgs false
namespace Go.Proofs.YtikamehjeaoilaaGreatDoor
open Go.RowKit

theorem rowT_mem {c : UInt8} {l : List UInt8} : ∀ {ls : List (List UInt8)}, l ∈ ls → l.length ≤ (rowT c ls).length
  | x :: ls, h => by
    rw [rowT_cons, List.length_cons, List.length_append]
    rcases List.mem_cons.1 h with rfl | h
    · omega
    · have := rowT_mem (c := c) h
      omega
theorem rowT_count (c : UInt8) : ∀ ls : List (List UInt8), ls.length ≤ (rowT c ls).length
  | [] => by simp
  | x :: ls => by
    have := rowT_count c ls
    rw [rowT_cons]
    simp only [List.length_cons, List.length_append]
    omega
theorem ok_good (t : List UInt8) (h : evOk t = true) : (EvL.mk (kindS t) (evS t).a (evS t).b (evS t).id (evS t).pods (evS t).node).good := by
  have hkk := (words_back t h).2
  obtain ⟨ws, hws⟩ : ∃ ws, splitC 32 t = ws := ⟨_, rfl⟩
  unfold evOk at h
  unfold evS
  rw [hws] at h ⊢
  by_cases h1 : kindS t = 1
  · rw [if_pos h1] at h ⊢
    rw [h1]
    unfold twoOk at h
    simp only [Bool.and_eq_true] at h
    obtain ⟨⟨ha, hb⟩, -⟩ := h
    rw [ok_a] at ha
    have hl := num_in ha
    rw [partJ_a hl, ok_p] at hb
    have hp : ∀ p ∈ (ws.drop 2).map podX, p.good := fun p hp => by
      obtain ⟨x, hx, rfl⟩ := List.mem_map.1 hp
      exact (pod_back (List.all_eq_true.1 hb x hx)).2
    simp only [twoE, partJ_a hl, partE, if_true, Int.reduceEq, if_false, evS0]
    exact ⟨by simp, by simp, by simp, by simp, (num_back ha).2, hp, by simp, by simp, by simp, by simp, by simp, by simp⟩
  · by_cases h4 : kindS t = 4
    · rw [if_neg h1, if_pos h4] at h ⊢
      rw [h4]
      unfold twoOk at h
      simp only [Bool.and_eq_true, decide_eq_true_eq] at h
      obtain ⟨⟨ha, hb⟩, hc⟩ := h
      rw [ok_a] at ha
      have hl := num_in ha
      rw [partJ_a hl, ok_n] at hb
      simp only [Bool.and_eq_true, decide_eq_true_eq] at hb
      obtain ⟨hb, hl3⟩ := hb
      obtain ⟨n, hn⟩ := Option.isSome_iff_exists.1 hb
      have hg := (nodeW_inv hn).2
      simp only [twoE, partJ_a hl, partE, if_true, Int.reduceEq, if_false, Nat.reduceEqDiff, hn, Option.getD_some, evS0]
      exact ⟨by simp, by simp, (num_back ha).2, by simp, by simp, by simp, by simp, by simp, by simp, fun _ => hg, by simp, by simp⟩
    · by_cases h5 : kindS t = 5
      · rw [if_neg h1, if_neg h4, if_pos h5] at h ⊢
        rw [h5]
        unfold twoOk at h
        simp only [Bool.and_eq_true, decide_eq_true_eq] at h
        obtain ⟨⟨ha, hb⟩, hc⟩ := h
        rw [ok_a] at ha
        have hl := num_in ha
        rw [partJ_a hl, ok_m] at hb
        simp only [Bool.and_eq_true, decide_eq_true_eq] at hb
        obtain ⟨hb, hl3⟩ := hb
        simp only [twoE, partJ_a hl, partE, if_true, Int.reduceEq, if_false, Nat.reduceEqDiff, evS0, noNode]
        exact ⟨by simp, by simp, (num_back ha).2, by simp, by simp, by simp, by simp, by simp, by simp, by simp, fun _ => ⟨hb, rfl⟩, by simp⟩
      · by_cases h10 : kindS t = 10
        · rw [if_neg h1, if_neg h4, if_neg h5, if_pos h10] at h ⊢
          rw [h10]
          unfold twoOk at h
          simp only [Bool.and_eq_true, decide_eq_true_eq] at h
          obtain ⟨⟨ha, hb⟩, hc⟩ := h
          rw [ok_a] at ha
          have hl := num_in ha
          rw [partJ_a hl, ok_b] at hb
          simp only [twoE, partJ_a hl, partE, if_true, Int.reduceEq, if_false, Nat.reduceEqDiff, evS0]
          exact ⟨by simp, by simp, (num_back ha).2, (num_back hb).2, by simp, by simp, by simp, by simp, by simp, by simp, by simp, by simp⟩
        · rw [if_neg h1, if_neg h4, if_neg h5, if_neg h10] at h ⊢
          unfold oneOk at h
          simp only [Bool.and_eq_true, decide_eq_true_eq, bne_iff_ne] at h
          obtain ⟨⟨h0, ha⟩, hc⟩ := h
          exact ⟨hkk.1, hkk.2, (num_back ha).2, by simp, by simp, by simp, fun h => absurd h h1, by simp, by simp, fun h => absurd h h4, fun h => absurd h h5, by simp⟩
theorem good_B {e : EvL} (h : e.good) {m : Nat} (hm : m ≤ 1000000) (ht : (textE e.kind (evSof e)).length ≤ m) : EvB e.kind (evSof e) := by
  have hr := ht
  rw [textE_T, evT, List.length_append] at hr
  have hw : ∀ l ∈ evWords e, l.length ≤ m := fun l hl => by have := rowT_mem (c := 32) hl; omega
  have hc := rowT_count 32 (evWords e)
  obtain ⟨k, a, b, id, ps, d⟩ := e
  obtain ⟨h1, h2, h3, h4, h5, h6, h7, h8, h9, h10, h11, h12⟩ := h
  simp only at *
  have hp : ∀ p ∈ ps, (podT p).length ≤ m := fun p hp => by
    by_cases k1 : k = 1
    · refine hw _ ?_
      unfold evWords
      rw [if_pos k1]
      exact List.mem_cons_of_mem _ (List.mem_map_of_mem hp)
    · obtain ⟨-, rfl⟩ := h8 k1
      simp at hp
  have hl : ps.length ≤ m := by
    by_cases k1 : k = 1
    · have : (evWords ⟨k, a, b, id, ps, d⟩).length = ps.length + 1 := by unfold evWords; rw [if_pos k1]; simp
      omega
    · obtain ⟨-, rfl⟩ := h8 k1
      simp
  have hd : d.cpu ≤ 1099511627776 ∧ d.mem ≤ 1099511627776 ∧ (nodeT d).length ≤ m + 200 ∧ d.marks.length ≤ 4 ∧ d.taints.length ≤ 4 := by
    by_cases k4 : k = 4
    · have hg := h10 k4
      have e1 := hg.2.2.2.1
      have e2 := hg.2.2.2.2
      simp only [setB, Bool.and_eq_true, decide_eq_true_eq] at e1 e2
      have : (nodeT d).length ≤ m := by
        refine hw _ ?_
        unfold evWords
        rw [if_neg (show ¬ k = 1 by omega), if_pos k4]
        simp
      exact ⟨hg.2.1, hg.2.2.1, by omega, e1.2, e2.2⟩
    · by_cases k5 : k = 5
      · obtain ⟨g1, g2⟩ := h11 k5
        have hn : d.name.length ≤ m := by
          refine hw _ ?_
          unfold evWords
          rw [if_neg (show ¬ k = 1 by omega), if_neg k4, if_pos k5]
          simp
        obtain ⟨nm, q1, q2, q3, q4, q5⟩ := d
        injection g2 with _ g3 g4 g5 g6 g7
        subst g3 g4 g5 g6 g7
        have := vecT_len 0 0 (by omega) (by omega)
        have := flagT_len false
        refine ⟨by simp, by simp, ?_, by simp, by simp⟩
        simp [nodeT, tailT, rowT]
        simp only at hn
        omega
      · obtain rfl := h12 k4 k5
        have := noNode_few
        exact ⟨by simp [noNode], by simp [noNode], by omega, by simp [noNode], by simp [noNode]⟩
  exact ⟨h3, h4, h5, fun p hq => ⟨(h6 p hq).2.1, (h6 p hq).2.2.1, (h6 p hq).2.2.2.1, by have := hp p hq; omega⟩, show ps.length ≤ _ by omega, ⟨show d.cpu ≤ _ by omega, show d.mem ≤ _ by omega, show (nodeT d).length ≤ _ by omega, show d.marks.length ≤ _ by omega, show d.taints.length ≤ _ by omega⟩, by omega⟩
/-- What the writer wants of what the reader gave. -/
theorem ok_B {t : List UInt8} (h : evOk t = true) (ht : t.length ≤ 1000000) : EvB (kindS t) (evS t) :=
  good_B (ok_good t h) ht (by
    show (textE (kindS t) (evS t)).length ≤ t.length
    rw [(text_back t h).1]
    exact Nat.le_refl _)
end Go.Proofs.YtikamehjeaoilaaGreatDoor
/-! A string's bytes as a row: made, read, one turned, made a string again. -/
set_option linter.unusedVariables false
set_option linter.unusedSimpArgs false
namespace Go.Proofs.YtikamehjeaoilaaGreatDoor
open Go.RowKit

/-- Block b holds these bytes from its place 0 on; none of them is frozen. -/
def BytesAt (T : TypeId) (w : World) (b : Nat) (l : List UInt8) : Prop :=
  ∃ (cs : Array Value) (f g : Nat), w.heap[b]? = some (.cells cs T (f, g)) ∧ cs.size ≤ f ∧ l.length ≤ cs.size ∧ ∀ i, i < l.length → cs[i]? = some (.int .u8 (l.getD i 0).toNat)
theorem BytesAt.below {T : TypeId} {w w' : World} {b : Nat} {l : List UInt8} (h : BytesAt T w b l) (hb : Below w.heap.size w w') : BytesAt T w' b l := by
  obtain ⟨cs, f, g, h1, h2⟩ := h
  exact ⟨cs, f, g, block_below h1 hb, h2⟩
theorem BytesAt.cell {T : TypeId} {w : World} {b : Nat} {l : List UInt8} (h : BytesAt T w b l) {i : Nat} (hi : i < l.length) : w.cell? ⟨b, i, none⟩ = some (.int .u8 (l.getD i 0).toNat) := by
  obtain ⟨cs, f, g, h1, h2, h3, h4⟩ := h
  simp [World.cell?, h1, h4 i hi]
theorem BytesAt.free {T : TypeId} {w : World} {b : Nat} {l : List UInt8} (h : BytesAt T w b l) {i : Nat} (hi : i < l.length) : w.frozen? ⟨b, i, none⟩ = false := by
  obtain ⟨cs, f, g, h1, h2, h3, h4⟩ := h
  simp [World.frozen?, h1]
  omega
theorem BytesAt.set {T : TypeId} {w : World} {b : Nat} {l : List UInt8} (h : BytesAt T w b l) {i : Nat} (hi : i < l.length) (u : UInt8) : BytesAt T (w.setCell ⟨b, i, none⟩ (.int .u8 u.toNat)) b (l.set i u) := by
  obtain ⟨cs, f, g, h1, h2, h3, h4⟩ := h
  refine ⟨cs.setIfInBounds i (.int .u8 u.toNat), f, g, ?_, by simpa using h2, by simpa using h3, fun j hj => ?_⟩
  · unfold World.setCell
    simp [Array.getElem?_modify, h1]
  · rw [List.length_set] at hj
    rw [Array.getElem?_setIfInBounds]
    by_cases e : i = j
    · subst e
      rw [if_pos rfl, if_pos (by omega)]
      simp [List.getD_eq_getElem?_getD, hj]
    · rw [if_neg e, h4 j hj]
      simp [List.getD_eq_getElem?_getD, List.getElem?_set_ne e]
theorem bytes_new (T : TypeId) (w : World) (l : List UInt8) : BytesAt T (Lib.bytesWorld w T (str l)) w.heap.size l := by
  refine ⟨_, _, _, Lib.bytesWorld_at_new w T (str l), Nat.le_refl _, ?_, fun i hi => ?_⟩
  · unfold Lib.bytesCells
    simp [str]
  · have hs : i < (str l).data.size := by simpa [str] using hi
    unfold Lib.bytesCells
    rw [Array.getElem?_append_left (by simpa using hs)]
    simp [str, List.getD_eq_getElem?_getD, hi]
theorem bytes_below (T : TypeId) (w : World) (s : ByteArray) : Below w.heap.size w (Lib.bytesWorld w T s) :=
  ⟨rfl, rfl, rfl, by rw [Lib.bytesWorld_size]; omega, fun j hj => Lib.bytesWorld_at_old w T s j hj⟩
theorem strOfNums_str (l : List UInt8) : strOfNums (l.map fun b => ((b.toNat : Nat) : Int)) = str l := by
  unfold strOfNums str
  congr 1
  simp [Function.comp_def]
theorem BytesAt.conv {P : Program} {T src dst : TypeId} (hs : P.underlying src = some (.slice T)) (he : P.underlying T = some (.int .u8)) (hd : P.underlying dst = some .string) {w : World} {b : Nat} {l : List UInt8} (h : BytesAt T w b l) {n : Nat} (hn : n = l.length) (cap : Nat) :
    (convert src dst (.slice (some ⟨b, 0, none⟩) n cap)).run P w = .ok (.string (str l)) w := by
  have := run_convert_bytes_arg (P := P) w src T hs he b 0 n cap (l.map fun b => ((b.toNat : Nat) : Int)) (by simp [hn]) (fun i hi => by
    rw [Nat.zero_add, h.cell (by omega)]
    have hi' : i < l.length := by omega
    simp [List.getD_eq_getElem?_getD, hi']) dst hd
  rw [this, strOfNums_str]
end Go.Proofs.YtikamehjeaoilaaGreatDoor
/-! PlayOnly: the law's walk. -/
set_option linter.unusedVariables false
set_option linter.unusedSimpArgs false
namespace Go.Proofs.YtikamehjeaoilaaGreatDoor
open Go.RowKit

theorem textE_ne (k : Nat) (h1 : 1 ≤ k) (h2 : k ≤ 11) (s : EvS) : 0 < (textE k s).length := by
  have ht : textE k s = evT ⟨k, s.a, s.b, s.id, s.pods, s.node⟩ := textE_T ⟨k, s.a, s.b, s.id, s.pods, s.node⟩
  rw [ht, evT, List.length_append]
  have hv : 0 < (verb k).length := by
    rcases (by omega : k = 1 ∨ k = 2 ∨ k = 3 ∨ k = 4 ∨ k = 5 ∨ k = 6 ∨ k = 7 ∨ k = 8 ∨ k = 9 ∨ k = 10 ∨ k = 11) with rfl | rfl | rfl | rfl | rfl | rfl | rfl | rfl | rfl | rfl | rfl <;> decide
  show 0 < (verb k).length + _
  omega
theorem add_u8 (x : UInt8) (y : Nat) : ((x + UInt8.ofNat y).toNat : Int) = IntKind.u8.wrap ((x.toNat : Int) + y) := by
  simp [IntKind.wrap, IntKind.signed, IntKind.bits, UInt8.toNat_add]

end Go.Proofs.YtikamehjeaoilaaGreatDoor
