/- A node's word, read by the program: Check, Parse, play's node. -/
import Derived.Test.YtikamehjeaoilaaGreatDoorLr
set_option linter.unusedVariables false
set_option linter.unusedSimpArgs false
namespace Go.Proofs.YtikamehjeaoilaaGreatDoor
open Go.RowKit

abbrev recV (nm : ByteArray) (c m : Int) (u x : Value) (b : Bool) : Value := .agg #[.int .i64 1, .int .i64 0, .slice none 0 0, .slice none 0 0, .string nm, .int .i64 c, .int .i64 m, u, x, .bool b]
set_option maxRecDepth 1000000 in
set_option maxHeartbeats 2000000 in
theorem more_node (nm : ByteArray) (c m : Int) (au ax : Option Addr) (lu cu lx cx : Nat) (b : Bool) (w : World) : Calls Tryz.prog 160 #[recV nm c m (.slice au lu cu) (.slice ax lx cx) b] w fun e w' => e = .returned (.bool false) ∧ Below w.heap.size w w' := by
  go_enter Tryz.func160, Tryz.ntmps160
  go_wp2
  go_ret
  exact ⟨rfl, below_alloc' (Below.refl _ _) _⟩
set_option maxRecDepth 1000000 in
set_option maxHeartbeats 2000000 in
theorem check_node (b0 : Nat) (v : Value) (n : NodeL) (w : World) (hn : RecAt b0 w v n) (hf : n.few) : Calls Tryz.prog 114 #[v] w fun e w' => e = .returned (.int .i64 (errN n)) ∧ Below w.heap.size w w' := by
  obtain ⟨u, x, rfl, ou, ox⟩ := hn
  have OU := Lib.hid ou
  have OX := Lib.hid ox
  obtain ⟨au, lu, cu, rfl⟩ := own_slice ou
  obtain ⟨ax, lx, cx, rfl⟩ := own_slice ox
  have HF := Lib.hid hf
  obtain ⟨nm, hnm⟩ : ∃ y, str n.name = y := ⟨_, rfl⟩
  have HNM := Lib.hid hnm
  rw [hnm]
  clear ou ox hf hnm
  go_enter Tryz.func114, Tryz.ntmps114
  go_wp2_with fail
  refine (more_node nm n.cpu n.mem au ax lu cu lx cx n.closed _).mono ?_
  rintro e w1 ⟨rfl, hb1⟩
  have B1 := Lib.hid (block_below (alloc_at w _) hb1)
  have HB1 := Lib.hid (below_call (below_alloc' (Below.refl _ _) _) hb1)
  clear hb1
  have c0 := cell_of_block B1.out 0 _ rfl
  have c4 := cell_of_block B1.out 4 _ rfl
  have c5 := cell_of_block B1.out 5 _ rfl
  have c6 := cell_of_block B1.out 6 _ rfl
  have c7 := cell_of_block B1.out 7 _ rfl
  have c8 := cell_of_block B1.out 8 _ rfl
  have c9 := cell_of_block B1.out 9 _ rfl
  go_wp2_with fail
  rw [← HNM.out]
  refine (snode_any b0 _ n _ ⟨_, _, rfl, own_below OU.out HB1.out, own_below OX.out HB1.out⟩ HF.out).mono ?_
  rintro e w2 ⟨rfl, hb2⟩
  have HB2 := Lib.hid (below_call HB1.out hb2)
  clear hb2
  go_wp2
  go_ret
  exact ⟨rfl, HB2.out⟩

def zeroRec : Value := .agg #[.int .i64 0, .int .i64 0, .slice none 0 0, .slice none 0 0, .string ⟨#[]⟩, .int .i64 0, .int .i64 0, .slice none 0 0, .slice none 0 0, .bool false]
set_option maxRecDepth 1000000 in
set_option maxHeartbeats 4000000 in
theorem read_nil (w : World) : Calls Tryz.prog 112 #[.slice none 0 0] w fun e w' => e = .returned (.tuple #[zeroRec, .bool false]) ∧ Below w.heap.size w w' := by
  go_enter Tryz.func112, Tryz.ntmps112
  go_wp2
  refine bodyPost_ret (v := .tuple #[zeroRec, .bool false]) (by simp [results, Tryz.results112, go_sem, zeroRec]) rfl ⟨rfl, below_alloc' (Below.refl _ _) _⟩
theorem rowX_few (c : UInt8) : ∀ k l, (rowX c k l).1.length ≤ k ∧ ∀ x ∈ (rowX c k l).1, x.length ≤ l.length
  | 0, l => by simp [rowX]
  | k + 1, l => by
    rw [rowX]
    split
    · have ih := rowX_few c k (nameX (pSign c l).2).2.1
      have h1 := sign_le c l
      have h2 := nameX_len (pSign c l).2
      refine ⟨by simp; exact ih.1, fun x hx => ?_⟩
      rcases List.mem_cons.1 hx with rfl | hx
      · have : ((pSign c l).2.takeWhile (fun c => !parting c) ++ (pSign c l).2.dropWhile (fun c => !parting c)).length = (pSign c l).2.length := by rw [List.takeWhile_append_dropWhile]
        rw [List.length_append] at this
        show ((pSign c l).2.takeWhile _).length ≤ _
        omega
      · have := ih.2 x hx; omega
    · simp
theorem numX_bd (l : List UInt8) : (numX l).1 ≤ 999999999999999 := by
  unfold numX
  split
  · exact Nat.zero_le _
  · rename_i h
    have h1 := val_lt _ (takeWhile_all (p := dig) l)
    have h2 : 10 ^ (l.takeWhile dig).length ≤ 10 ^ 15 := Nat.pow_le_pow_right (by decide) (by
      rcases Nat.lt_or_ge 15 (l.takeWhile dig).length with h3 | h3
      · exact absurd (.inl h3) h
      · exact h3)
    have : (10 : Nat) ^ 15 = 1000000000000000 := by decide
    show val (l.takeWhile dig) ≤ _
    omega
theorem nodeX_few (l : List UInt8) (hl : l.length ≤ 4294967280) : (nodeX l).1.few := by
  have h1 := nameX_len l
  have h2 := sign_le 58 (nameX l).2.1
  have h3 := vecX_len (pSign 58 (nameX l).2.1).2
  have h4 := rowX_few 43 (vecX (pSign 58 (nameX l).2.1).2).2.1.length (vecX (pSign 58 (nameX l).2.1).2).2.1
  have h5 := rowX_len 43 (vecX (pSign 58 (nameX l).2.1).2).2.1.length (vecX (pSign 58 (nameX l).2.1).2).2.1
  have h6 := rowX_few 126 (rowX 43 (vecX (pSign 58 (nameX l).2.1).2).2.1.length (vecX (pSign 58 (nameX l).2.1).2).2.1).2.1.length (rowX 43 (vecX (pSign 58 (nameX l).2.1).2).2.1.length (vecX (pSign 58 (nameX l).2.1).2).2.1).2.1
  have hn : (nameX l).1.length ≤ l.length := by
    have : (l.takeWhile (fun c => !parting c) ++ l.dropWhile (fun c => !parting c)).length = l.length := by rw [List.takeWhile_append_dropWhile]
    rw [List.length_append] at this
    show (l.takeWhile _).length ≤ _
    omega
  refine ⟨?_, ⟨?_, fun x hx => ?_⟩, ⟨?_, fun x hx => ?_⟩, ?_, ?_⟩
  · show (nameX l).1.length ≤ _; omega
  · exact Nat.le_trans h4.1 (by omega)
  · have := h4.2 x hx; omega
  · exact Nat.le_trans h6.1 (by omega)
  · have := h6.2 x hx; omega
  · have := numX_bd (pSign 58 (nameX l).2.1).2
    show (numX (pSign 58 (nameX l).2.1).2).1 ≤ _
    omega
  · have := numX_bd (pSign 44 (numX (pSign 58 (nameX l).2.1).2).2.1).2
    show (numX (pSign 44 (numX (pSign 58 (nameX l).2.1).2).2.1).2).1 ≤ _
    omega
theorem nodeW_X (s : List UInt8) : nodeW s = if (!(nodeX s).2.2 && decide ((nodeX s).2.1 = [])) = true then (if errN (nodeX s).1 = 0 then some (nodeX s).1 else none) else none := by
  unfold nodeW
  rw [nodeX_p]
  split
  · simp only [Option.bind_some]
    by_cases h : (nodeX s).1.goodB = true
    · rw [if_pos h, if_pos ((errN_good _).2 (NodeL.goodB_iff.1 h))]
    · rw [if_neg h, if_neg (fun e => h (NodeL.goodB_iff.2 ((errN_good _).1 e)))]
  · rfl
end Go.Proofs.YtikamehjeaoilaaGreatDoor
