/- A node's word, read by the program: Parse, play's node. -/
import Derived.Test.YtikamehjeaoilaaGreatDoorLp
set_option linter.unusedVariables false
set_option linter.unusedSimpArgs false
namespace Go.Proofs.YtikamehjeaoilaaGreatDoor
open Go.RowKit

theorem node_words {s : List UInt8} (h : (32 : UInt8) ∉ s) : splitC 32 ([110, 111, 100, 101, 32] ++ s) = [[110, 111, 100, 101], s] := by
  have := splitC_row (c := 32) [110, 111, 100, 101] [s] (by decide) (by simpa using h)
  simpa [rowT] using this
def ParsePost (s : List UInt8) (w : World) (e : Ending) (w' : World) : Prop :=
  (∃ n v, nodeW s = some n ∧ e = .returned (.tuple #[v, .int .i64 0]) ∧ RecAt w.heap.size w' v n ∧ Below w.heap.size w w') ∨ (∃ k : Int, k ≠ 0 ∧ nodeW s = none ∧ e = .returned (.tuple #[zeroRec, .int .i64 k]) ∧ Below w.heap.size w w')
theorem errN_lt (n : NodeL) : 0 ≤ errN n ∧ errN n ≤ 2 := by unfold errN; split <;> (try split) <;> (try split) <;> omega
set_option maxRecDepth 1000000 in
set_option maxHeartbeats 8000000 in
theorem parse_node (s : List UInt8) (w : World) (ht : Tabs w) (hs : s.length ≤ 4294967000) (h32 : (32 : UInt8) ∉ s) :
    Calls Tryz.prog 68 #[.string (str ([110, 111, 100, 101, 32] ++ s))] w (ParsePost s w) := by
  have HT := Lib.hid ht
  have hsp := node_words h32
  have hlen : ([110, 111, 100, 101, 32] ++ s).length ≤ 4294967280 := by simp; omega
  obtain ⟨z, hz⟩ : ∃ z, [110, 111, 100, 101, 32] ++ s = z := ⟨_, rfl⟩
  rw [hz] at hsp hlen
  rw [hz]
  have HSP := Lib.hid hsp
  clear ht hsp hz
  go_enter Tryz.func68, Tryz.ntmps68
  go_wp2_with fail
  refine (words_any z _ (HT.out.below (below_alloc' (Below.refl _ _) _)) hlen).mono ?_
  rintro e w1 ⟨hw, hb1⟩
  have hz1 : w.heap.size + 1 ≤ w1.heap.size := by have := hb1.size; simpa using this
  have B1 := Lib.hid (block_below (alloc_at w _) hb1)
  have HB1 := Lib.hid (below_call (below_alloc' (Below.refl _ _) _) hb1)
  clear hb1
  by_cases h0 : s = []
  · have hwl : wordsL z = [] := by unfold wordsL; rw [HSP.out, h0, if_pos (by simp)]
    obtain ⟨rfl, _⟩ | ⟨g, rfl, h2, _⟩ := hw
    · have HNW := Lib.hid (show nodeW s = none by rw [h0]; decide +kernel)
      clear hwl h0
      go_wp2_with fail
      refine (read_nil _).mono ?_
      rintro e w2 ⟨rfl, hb2⟩
      have B2 := Lib.hid (block_below B1.out hb2)
      have HB2 := Lib.hid (below_call HB1.out hb2)
      clear hb2
      have c0 := fun o => cell_below (cell_of_block B2.out 0 _ rfl) (below_alloc' (Below.refl _ _) o)
      have c1 := fun o => cell_below (cell_of_block B2.out 1 _ rfl) (below_alloc' (Below.refl _ _) o)
      have c2 := fun o => cell_below (cell_of_block B2.out 2 _ rfl) (below_alloc' (Below.refl _ _) o)
      have c3 := fun o => cell_below (cell_of_block B2.out 3 _ rfl) (below_alloc' (Below.refl _ _) o)
      have c4 := fun o => cell_below (cell_of_block B2.out 4 _ rfl) (below_alloc' (Below.refl _ _) o)
      have c5 := fun o => cell_below (cell_of_block B2.out 5 _ rfl) (below_alloc' (Below.refl _ _) o)
      have c6 := fun o => cell_below (cell_of_block B2.out 6 _ rfl) (below_alloc' (Below.refl _ _) o)
      have c7 := fun o => cell_below (cell_of_block B2.out 7 _ rfl) (below_alloc' (Below.refl _ _) o)
      have c8 := fun o => cell_below (cell_of_block B2.out 8 _ rfl) (below_alloc' (Below.refl _ _) o)
      have c9 := fun o => cell_below (cell_of_block B2.out 9 _ rfl) (below_alloc' (Below.refl _ _) o)
      have f2 := fun (o : Obj) j => free_of_block (block_below B2.out (below_alloc' (Below.refl _ _) o)) j
      unfold zeroRec
      go_wp2
      have BW := block_below B2.out (below_alloc' (Below.refl _ _) (.cells #[.int .i64 0, .int .i64 0, .slice none 0 0, .slice none 0 0, .string ⟨#[]⟩, .int .i64 0, .int .i64 0, .slice none 0 0, .slice none 0 0, .bool false] 118))
      have HBW := HB2.out.alloc HB2.out.size (.cells #[.int .i64 0, .int .i64 0, .slice none 0 0, .slice none 0 0, .string ⟨#[]⟩, .int .i64 0, .int .i64 0, .slice none 0 0, .slice none 0 0, .bool false] 118)
      have fb := sets10 (.int .i64 0) (.int .i64 0) (.slice none 0 0) (.slice none 0 0) (.string ⟨#[]⟩) (.int .i64 0) (.int .i64 0) (.slice none 0 0) (.slice none 0 0) (.bool false) BW
      have gb := below_sets (b := w.heap.size) (Nat.le_refl _) [.int .i64 0, .int .i64 0, .slice none 0 0, .slice none 0 0, .string ⟨#[]⟩, .int .i64 0, .int .i64 0, .slice none 0 0, .slice none 0 0, .bool false] 0 (w2.alloc (.cells #[.int .i64 0, .int .i64 0, .slice none 0 0, .slice none 0 0, .string ⟨#[]⟩, .int .i64 0, .int .i64 0, .slice none 0 0, .slice none 0 0, .bool false] 118)) HBW
      obtain ⟨W2, hW2⟩ : ∃ W2, (((((((((((w2.alloc (.cells #[.int .i64 0, .int .i64 0, .slice none 0 0, .slice none 0 0, .string ⟨#[]⟩, .int .i64 0, .int .i64 0, .slice none 0 0, .slice none 0 0, .bool false] 118)).setCell ⟨w.heap.size, 0, none⟩ (.int .i64 0)).setCell ⟨w.heap.size, 1, none⟩ (.int .i64 0)).setCell ⟨w.heap.size, 2, none⟩ (.slice none 0 0)).setCell ⟨w.heap.size, 3, none⟩ (.slice none 0 0)).setCell ⟨w.heap.size, 4, none⟩ (.string ⟨#[]⟩)).setCell ⟨w.heap.size, 5, none⟩ (.int .i64 0)).setCell ⟨w.heap.size, 6, none⟩ (.int .i64 0)).setCell ⟨w.heap.size, 7, none⟩ (.slice none 0 0)).setCell ⟨w.heap.size, 8, none⟩ (.slice none 0 0)).setCell ⟨w.heap.size, 9, none⟩ (.bool false)) = W2 := ⟨_, rfl⟩
      rw [show World.setCells (w2.alloc (.cells #[.int .i64 0, .int .i64 0, .slice none 0 0, .slice none 0 0, .string ⟨#[]⟩, .int .i64 0, .int .i64 0, .slice none 0 0, .slice none 0 0, .bool false] 118)) w.heap.size 0 [.int .i64 0, .int .i64 0, .slice none 0 0, .slice none 0 0, .string ⟨#[]⟩, .int .i64 0, .int .i64 0, .slice none 0 0, .slice none 0 0, .bool false] = W2 from hW2] at fb gb 
      rw [hW2]
      clear hW2
      have k0 := cell_of_block fb 0 _ rfl
      have k1 := cell_of_block fb 1 _ rfl
      have k2 := cell_of_block fb 2 _ rfl
      have k3 := cell_of_block fb 3 _ rfl
      have k4 := cell_of_block fb 4 _ rfl
      have k5 := cell_of_block fb 5 _ rfl
      have k6 := cell_of_block fb 6 _ rfl
      have k7 := cell_of_block fb 7 _ rfl
      have k8 := cell_of_block fb 8 _ rfl
      have k9 := cell_of_block fb 9 _ rfl
      refine bodyPost_ret (v := .tuple #[.agg #[.int .i64 0, .int .i64 0, .slice none 0 0, .slice none 0 0, .string ⟨#[]⟩, .int .i64 0, .int .i64 0, .slice none 0 0, .slice none 0 0, .bool false], .int .i64 8]) (by simp [results, Tryz.results68, go_sem, k0, k1, k2, k3, k4, k5, k6, k7, k8, k9]) rfl ?_
      exact .inr ⟨8, by decide, HNW.out, rfl, gb⟩
    · exfalso
      rw [hwl, HSP.out] at h2
      cases h2
  · have hwl : wordsL z = [[110, 111, 100, 101], s] := by unfold wordsL; rw [HSP.out, if_neg (by simpa using Ne.symm h0)]
    obtain ⟨rfl, h2⟩ | ⟨g, rfl, _, hg, hbk⟩ := hw
    · exfalso; rw [hwl] at h2; cases h2
    · rw [hwl] at hbk
      rw [hwl]
      have HBK := Lib.hid hbk
      have HT1 := Lib.hid (HT.out.below HB1.out)
      have HNW := Lib.hid (nodeW_X s)
      have HFEW := Lib.hid (nodeX_few s (by omega))
      clear hwl hbk h0
      go_wp2_with fail
      refine (read_node g s _ HT1.out HBK.out (by omega)).mono ?_
      rintro e w2 ⟨v, rfl, ⟨u, x, rfl, ou, ox⟩, hb2⟩
      have B2 := Lib.hid (block_below B1.out hb2)
      have HB2 := Lib.hid (below_call HB1.out hb2)
      have OU := Lib.hid (own_base ou (show w.heap.size ≤ _ by omega))
      have OX := Lib.hid (own_base ox (show w.heap.size ≤ _ by omega))
      obtain ⟨au, lu, cu, rfl⟩ := own_slice ou
      obtain ⟨ax, lx, cx, rfl⟩ := own_slice ox
      have hz2 : w1.heap.size ≤ w2.heap.size := hb2.size
      clear hb2 ou ox
      obtain ⟨b, hb⟩ : ∃ b, (!(nodeX s).2.2 && decide ((nodeX s).2.1 = [])) = b := ⟨_, rfl⟩
      rw [hb] at HNW
      rw [hb]
      clear hb
      obtain ⟨n, hn⟩ : ∃ n, (nodeX s).1 = n := ⟨_, rfl⟩
      rw [hn] at HNW HFEW OU OX
      rw [hn]
      clear hn
      obtain ⟨nm, hnm⟩ : ∃ y, str n.name = y := ⟨_, rfl⟩
      have HNM := Lib.hid hnm
      rw [hnm]
      clear hnm
      cases b with
      | false =>
        have c0 := fun o => cell_below (cell_of_block B2.out 0 _ rfl) (below_alloc' (Below.refl _ _) o)
        have c1 := fun o => cell_below (cell_of_block B2.out 1 _ rfl) (below_alloc' (Below.refl _ _) o)
        have c2 := fun o => cell_below (cell_of_block B2.out 2 _ rfl) (below_alloc' (Below.refl _ _) o)
        have c3 := fun o => cell_below (cell_of_block B2.out 3 _ rfl) (below_alloc' (Below.refl _ _) o)
        have c4 := fun o => cell_below (cell_of_block B2.out 4 _ rfl) (below_alloc' (Below.refl _ _) o)
        have c5 := fun o => cell_below (cell_of_block B2.out 5 _ rfl) (below_alloc' (Below.refl _ _) o)
        have c6 := fun o => cell_below (cell_of_block B2.out 6 _ rfl) (below_alloc' (Below.refl _ _) o)
        have c7 := fun o => cell_below (cell_of_block B2.out 7 _ rfl) (below_alloc' (Below.refl _ _) o)
        have c8 := fun o => cell_below (cell_of_block B2.out 8 _ rfl) (below_alloc' (Below.refl _ _) o)
        have c9 := fun o => cell_below (cell_of_block B2.out 9 _ rfl) (below_alloc' (Below.refl _ _) o)
        have f2 := fun (o : Obj) j => free_of_block (block_below B2.out (below_alloc' (Below.refl _ _) o)) j
        go_wp2
        have BW := block_below B2.out (below_alloc' (Below.refl _ _) (.cells #[.int .i64 1, .int .i64 0, .slice none 0 0, .slice none 0 0, .string nm, .int .i64 n.cpu, .int .i64 n.mem, .slice au lu cu, .slice ax lx cx, .bool n.closed] 118))
        have HBW := HB2.out.alloc HB2.out.size (.cells #[.int .i64 1, .int .i64 0, .slice none 0 0, .slice none 0 0, .string nm, .int .i64 n.cpu, .int .i64 n.mem, .slice au lu cu, .slice ax lx cx, .bool n.closed] 118)
        have fb := sets10 (.int .i64 0) (.int .i64 0) (.slice none 0 0) (.slice none 0 0) (.string ⟨#[]⟩) (.int .i64 0) (.int .i64 0) (.slice none 0 0) (.slice none 0 0) (.bool false) BW
        have gb := below_sets (b := w.heap.size) (Nat.le_refl _) [.int .i64 0, .int .i64 0, .slice none 0 0, .slice none 0 0, .string ⟨#[]⟩, .int .i64 0, .int .i64 0, .slice none 0 0, .slice none 0 0, .bool false] 0 (w2.alloc (.cells #[.int .i64 1, .int .i64 0, .slice none 0 0, .slice none 0 0, .string nm, .int .i64 n.cpu, .int .i64 n.mem, .slice au lu cu, .slice ax lx cx, .bool n.closed] 118)) HBW
        obtain ⟨W2, hW2⟩ : ∃ W2, (((((((((((w2.alloc (.cells #[.int .i64 1, .int .i64 0, .slice none 0 0, .slice none 0 0, .string nm, .int .i64 n.cpu, .int .i64 n.mem, .slice au lu cu, .slice ax lx cx, .bool n.closed] 118)).setCell ⟨w.heap.size, 0, none⟩ (.int .i64 0)).setCell ⟨w.heap.size, 1, none⟩ (.int .i64 0)).setCell ⟨w.heap.size, 2, none⟩ (.slice none 0 0)).setCell ⟨w.heap.size, 3, none⟩ (.slice none 0 0)).setCell ⟨w.heap.size, 4, none⟩ (.string ⟨#[]⟩)).setCell ⟨w.heap.size, 5, none⟩ (.int .i64 0)).setCell ⟨w.heap.size, 6, none⟩ (.int .i64 0)).setCell ⟨w.heap.size, 7, none⟩ (.slice none 0 0)).setCell ⟨w.heap.size, 8, none⟩ (.slice none 0 0)).setCell ⟨w.heap.size, 9, none⟩ (.bool false)) = W2 := ⟨_, rfl⟩
        rw [show World.setCells (w2.alloc (.cells #[.int .i64 1, .int .i64 0, .slice none 0 0, .slice none 0 0, .string nm, .int .i64 n.cpu, .int .i64 n.mem, .slice au lu cu, .slice ax lx cx, .bool n.closed] 118)) w.heap.size 0 [.int .i64 0, .int .i64 0, .slice none 0 0, .slice none 0 0, .string ⟨#[]⟩, .int .i64 0, .int .i64 0, .slice none 0 0, .slice none 0 0, .bool false] = W2 from hW2] at fb gb 
        rw [hW2]
        clear hW2
        have k0 := cell_of_block fb 0 _ rfl
        have k1 := cell_of_block fb 1 _ rfl
        have k2 := cell_of_block fb 2 _ rfl
        have k3 := cell_of_block fb 3 _ rfl
        have k4 := cell_of_block fb 4 _ rfl
        have k5 := cell_of_block fb 5 _ rfl
        have k6 := cell_of_block fb 6 _ rfl
        have k7 := cell_of_block fb 7 _ rfl
        have k8 := cell_of_block fb 8 _ rfl
        have k9 := cell_of_block fb 9 _ rfl
        refine bodyPost_ret (v := .tuple #[.agg #[.int .i64 0, .int .i64 0, .slice none 0 0, .slice none 0 0, .string ⟨#[]⟩, .int .i64 0, .int .i64 0, .slice none 0 0, .slice none 0 0, .bool false], .int .i64 8]) (by simp [results, Tryz.results68, go_sem, k0, k1, k2, k3, k4, k5, k6, k7, k8, k9]) rfl ?_
        exact .inr ⟨8, by decide, HNW.out, rfl, gb⟩
      | true =>
        go_wp2_with fail
        rw [← HNM.out]
        refine (check_node w.heap.size _ n _ ⟨_, _, rfl, World.ownsRow.alloc OU.out _, World.ownsRow.alloc OX.out _⟩ HFEW.out).mono ?_
        rintro e w3 ⟨rfl, hb3⟩
        rw [HNM.out] at hb3 ⊢
        have B3 := Lib.hid (block_below (block_below B2.out (below_alloc' (Below.refl _ _) _)) hb3)
        have R3 := Lib.hid (block_below (alloc_at w2 _) hb3)
        have HB3 := Lib.hid (below_call (HB2.out.alloc HB2.out.size _) hb3)
        have OU3 := Lib.hid (own_below (World.ownsRow.alloc OU.out _) hb3)
        have OX3 := Lib.hid (own_below (World.ownsRow.alloc OX.out _) hb3)
        have hz3 : w2.heap.size + 1 ≤ w3.heap.size := by have := hb3.size; simpa using this
        have hlt := errN_lt n
        clear hb3
        have c0 := cell_of_block B3.out 0 _ rfl
        have c1 := cell_of_block B3.out 1 _ rfl
        have c2 := cell_of_block B3.out 2 _ rfl
        have c3 := cell_of_block B3.out 3 _ rfl
        have c4 := cell_of_block B3.out 4 _ rfl
        have c5 := cell_of_block B3.out 5 _ rfl
        have c6 := cell_of_block B3.out 6 _ rfl
        have c7 := cell_of_block B3.out 7 _ rfl
        have c8 := cell_of_block B3.out 8 _ rfl
        have c9 := cell_of_block B3.out 9 _ rfl
        have d0 := cell_of_block R3.out 0 _ rfl
        have d1 := cell_of_block R3.out 1 _ rfl
        have d2 := cell_of_block R3.out 2 _ rfl
        have d3 := cell_of_block R3.out 3 _ rfl
        have d4 := cell_of_block R3.out 4 _ rfl
        have d5 := cell_of_block R3.out 5 _ rfl
        have d6 := cell_of_block R3.out 6 _ rfl
        have d7 := cell_of_block R3.out 7 _ rfl
        have d8 := cell_of_block R3.out 8 _ rfl
        have d9 := cell_of_block R3.out 9 _ rfl
        have f3 := fun j => free_of_block B3.out j
        have hne : w.heap.size ≠ w2.heap.size := by omega
        have hne' : w2.heap.size ≠ w.heap.size := by omega
        by_cases he : errN n = 0
        · have HE := Lib.hid he
          rw [he]
          clear he hlt
          go_wp2
          have fb := sets10 (.int .i64 1) (.int .i64 0) (.slice none 0 0) (.slice none 0 0) (.string nm) (.int .i64 n.cpu) (.int .i64 n.mem) (.slice au lu cu) (.slice ax lx cx) (.bool n.closed) B3.out
          have gu := own_sets (b := w.heap.size) (by decide) [.int .i64 1, .int .i64 0, .slice none 0 0, .slice none 0 0, .string nm, .int .i64 n.cpu, .int .i64 n.mem, .slice au lu cu, .slice ax lx cx, .bool n.closed] 0 w3 _ B3.out OU3.out
          have gx := own_sets (b := w.heap.size) (by decide) [.int .i64 1, .int .i64 0, .slice none 0 0, .slice none 0 0, .string nm, .int .i64 n.cpu, .int .i64 n.mem, .slice au lu cu, .slice ax lx cx, .bool n.closed] 0 w3 _ B3.out OX3.out
          have gb := below_sets (b := w.heap.size) (Nat.le_refl _) [.int .i64 1, .int .i64 0, .slice none 0 0, .slice none 0 0, .string nm, .int .i64 n.cpu, .int .i64 n.mem, .slice au lu cu, .slice ax lx cx, .bool n.closed] 0 w3 HB3.out
          obtain ⟨W2, hW2⟩ : ∃ W2, ((((((((((w3.setCell ⟨w.heap.size, 0, none⟩ (.int .i64 1)).setCell ⟨w.heap.size, 1, none⟩ (.int .i64 0)).setCell ⟨w.heap.size, 2, none⟩ (.slice none 0 0)).setCell ⟨w.heap.size, 3, none⟩ (.slice none 0 0)).setCell ⟨w.heap.size, 4, none⟩ (.string nm)).setCell ⟨w.heap.size, 5, none⟩ (.int .i64 n.cpu)).setCell ⟨w.heap.size, 6, none⟩ (.int .i64 n.mem)).setCell ⟨w.heap.size, 7, none⟩ (.slice au lu cu)).setCell ⟨w.heap.size, 8, none⟩ (.slice ax lx cx)).setCell ⟨w.heap.size, 9, none⟩ (.bool n.closed)) = W2 := ⟨_, rfl⟩
          rw [show World.setCells w3 w.heap.size 0 [.int .i64 1, .int .i64 0, .slice none 0 0, .slice none 0 0, .string nm, .int .i64 n.cpu, .int .i64 n.mem, .slice au lu cu, .slice ax lx cx, .bool n.closed] = W2 from hW2] at fb gb gu gx
          rw [hW2]
          clear hW2
          have k0 := cell_of_block fb 0 _ rfl
          have k1 := cell_of_block fb 1 _ rfl
          have k2 := cell_of_block fb 2 _ rfl
          have k3 := cell_of_block fb 3 _ rfl
          have k4 := cell_of_block fb 4 _ rfl
          have k5 := cell_of_block fb 5 _ rfl
          have k6 := cell_of_block fb 6 _ rfl
          have k7 := cell_of_block fb 7 _ rfl
          have k8 := cell_of_block fb 8 _ rfl
          have k9 := cell_of_block fb 9 _ rfl
          refine bodyPost_ret (v := .tuple #[.agg #[.int .i64 1, .int .i64 0, .slice none 0 0, .slice none 0 0, .string nm, .int .i64 n.cpu, .int .i64 n.mem, .slice au lu cu, .slice ax lx cx, .bool n.closed], .int .i64 0]) (by simp [results, Tryz.results68, go_sem, k0, k1, k2, k3, k4, k5, k6, k7, k8, k9]) rfl ?_
          exact .inl ⟨n, _, by rw [HNW.out, HE.out]; rfl, rfl, ⟨.slice au lu cu, .slice ax lx cx, by rw [HNM.out], gu, gx⟩, gb⟩
        · obtain ⟨k, hk⟩ : ∃ k, errN n = k := ⟨_, rfl⟩
          rw [hk] at he hlt HNW
          rw [hk]
          have HK := Lib.hid hk
          have hkb : (k == 0) = false := beq_eq_false_iff_ne.2 he
          have hkn : (k != 0) = true := by rw [bne_iff_ne]; exact he
          clear hk
          go_wp2
          have fb := sets10 (.int .i64 0) (.int .i64 0) (.slice none 0 0) (.slice none 0 0) (.string ⟨#[]⟩) (.int .i64 0) (.int .i64 0) (.slice none 0 0) (.slice none 0 0) (.bool false) B3.out
          have gb := below_sets (b := w.heap.size) (Nat.le_refl _) [.int .i64 0, .int .i64 0, .slice none 0 0, .slice none 0 0, .string ⟨#[]⟩, .int .i64 0, .int .i64 0, .slice none 0 0, .slice none 0 0, .bool false] 0 w3 HB3.out
          obtain ⟨W2, hW2⟩ : ∃ W2, ((((((((((w3.setCell ⟨w.heap.size, 0, none⟩ (.int .i64 0)).setCell ⟨w.heap.size, 1, none⟩ (.int .i64 0)).setCell ⟨w.heap.size, 2, none⟩ (.slice none 0 0)).setCell ⟨w.heap.size, 3, none⟩ (.slice none 0 0)).setCell ⟨w.heap.size, 4, none⟩ (.string ⟨#[]⟩)).setCell ⟨w.heap.size, 5, none⟩ (.int .i64 0)).setCell ⟨w.heap.size, 6, none⟩ (.int .i64 0)).setCell ⟨w.heap.size, 7, none⟩ (.slice none 0 0)).setCell ⟨w.heap.size, 8, none⟩ (.slice none 0 0)).setCell ⟨w.heap.size, 9, none⟩ (.bool false)) = W2 := ⟨_, rfl⟩
          rw [show World.setCells w3 w.heap.size 0 [.int .i64 0, .int .i64 0, .slice none 0 0, .slice none 0 0, .string ⟨#[]⟩, .int .i64 0, .int .i64 0, .slice none 0 0, .slice none 0 0, .bool false] = W2 from hW2] at fb gb 
          rw [hW2]
          clear hW2
          have k0 := cell_of_block fb 0 _ rfl
          have k1 := cell_of_block fb 1 _ rfl
          have k2 := cell_of_block fb 2 _ rfl
          have k3 := cell_of_block fb 3 _ rfl
          have k4 := cell_of_block fb 4 _ rfl
          have k5 := cell_of_block fb 5 _ rfl
          have k6 := cell_of_block fb 6 _ rfl
          have k7 := cell_of_block fb 7 _ rfl
          have k8 := cell_of_block fb 8 _ rfl
          have k9 := cell_of_block fb 9 _ rfl
          refine bodyPost_ret (v := .tuple #[.agg #[.int .i64 0, .int .i64 0, .slice none 0 0, .slice none 0 0, .string ⟨#[]⟩, .int .i64 0, .int .i64 0, .slice none 0 0, .slice none 0 0, .bool false], .int .i64 k]) (by simp [results, Tryz.results68, go_sem, k0, k1, k2, k3, k4, k5, k6, k7, k8, k9]) rfl ?_
          exact .inr ⟨k, he, by rw [HNW.out]; simp [he], rfl, gb⟩
end Go.Proofs.YtikamehjeaoilaaGreatDoor
