/- The program's reader of words: two numbers, rows of names, a node. -/
import Derived.Test.YtikamehjeaoilaaGreatDoorRe
import Derived.Test.YtikamehjeaoilaaGreatDoorV
set_option linter.unusedVariables false
set_option linter.unusedSimpArgs false
namespace Go.Proofs.YtikamehjeaoilaaGreatDoor
open Go.RowKit

theorem Gb.alloc {g : Nat} {w w' : World} (h : Gb g w w') (o : Obj) : Gb g w (w'.alloc o) := h.trans (Gb.of_below (below_alloc' (Below.refl _ _) o))
theorem Gb.setNew {g b j : Nat} {w w' : World} (h : Gb g w w') (hb : w.heap.size ≤ b) (v : Value) : Gb g w (w'.setCell ⟨b, j, none⟩ v) :=
  ⟨h.os, h.tape, h.output, Nat.le_trans h.size (by simp [World.setCell]), fun k hk hn => (Below.heap_setCell _ _ _ _ (show k ≠ b by omega)).trans (h.block k hk hn)⟩
theorem RdAt.alloc {w : World} {g : Nat} {l : List UInt8} {no : Bool} (h : RdAt w g l no) (o : Obj) : RdAt (w.alloc o) g l no := block_below h (below_alloc' (Below.refl _ _) o)
theorem RdAt.setOther {w : World} {g b j : Nat} {l : List UInt8} {no : Bool} (h : RdAt w g l no) (hb : b ≠ g) (v : Value) : RdAt (w.setCell ⟨b, j, none⟩ v) g l no :=
  (Below.heap_setCell _ _ _ _ (Ne.symm hb)).trans h
def VecPost (g : Nat) (w : World) (a b : Nat) (l : List UInt8) (no : Bool) (e : Ending) (w' : World) : Prop := e = .returned (.agg #[.int .i64 a, .int .i64 b]) ∧ RdAt w' g l no ∧ Gb g w w'
theorem numX_len (l : List UInt8) : (numX l).2.1.length ≤ l.length := by
  unfold numX
  split
  · exact Nat.le_refl _
  · show (l.dropWhile dig).length ≤ l.length
    have : (l.takeWhile dig ++ l.dropWhile dig).length = l.length := by rw [List.takeWhile_append_dropWhile]
    rw [List.length_append] at this
    omega
theorem sign_le (c : UInt8) (l : List UInt8) : (pSign c l).2.length ≤ l.length := by rw [sign_len]; omega
set_option maxRecDepth 1000000 in
set_option maxHeartbeats 1000000 in
theorem rd_vec (g : Nat) (l : List UInt8) (no : Bool) (w : World) (h : RdAt w g l no) (hl : l.length ≤ 4294967280) :
    Calls Tryz.prog 189 #[.pointer (some ⟨g, 0, none⟩)] w (VecPost g w (vecX l).1.1 (vecX l).1.2 (vecX l).2.1 (no || (vecX l).2.2)) := by
  have hg : g < w.heap.size := (Array.getElem?_eq_some_iff.1 h).1
  have H := Lib.hid h
  clear h
  go_enter Tryz.func189, Tryz.ntmps189
  go_wp2_with fail
  refine (rd_number g l no _ (H.out.alloc _) hl).mono ?_
  rintro e w1 ⟨rfl, h1, hg1⟩
  have hz1 := hg1.size
  have hb0 := hg1.block' (alloc_at w _) (show w.heap.size ≠ g by omega)
  have H1 := Lib.hid h1
  have HG1 := Lib.hid hg1
  have HB0 := Lib.hid hb0
  obtain ⟨a, ha⟩ : ∃ a, (numX l).1 = a := ⟨_, rfl⟩
  have HA := Lib.hid ha
  rw [ha]
  have hlen1 := numX_len l
  have hsz1 : w.heap.size + 1 ≤ w1.heap.size := by simpa using hz1
  clear h1 hg1 hb0 ha hz1
  go_wp2_with fail
  refine (rd_must g 44 _ _ _ (H1.out.alloc _)).mono ?_
  rintro e w2 ⟨rfl, h2, hg2⟩
  have hsz2 : w1.heap.size + 1 ≤ w2.heap.size := by have := hg2.size; simpa using this
  have hb2 := hg2.block' (alloc_at w1 _) (show w1.heap.size ≠ g by omega)
  have hb20 := hg2.block' (block_below HB0.out (below_alloc' (Below.refl _ _) _)) (show w.heap.size ≠ g by omega)
  have H2 := Lib.hid h2
  have HG2 := Lib.hid hg2
  have HB2 := Lib.hid hb2
  have HB20 := Lib.hid hb20
  have hlen2 := sign_le 44 (numX l).2.1
  clear h2 hg2 hb2 hb20
  go_wp2_with fail
  refine (rd_number g _ _ _ H2.out (by omega)).mono ?_
  rintro e w3 ⟨rfl, h3, hg3⟩
  have hsz3 := hg3.size
  have hb3 := hg3.block' HB2.out (show w1.heap.size ≠ g by omega)
  have hb30 := hg3.block' HB20.out (show w.heap.size ≠ g by omega)
  have H3 := Lib.hid h3
  have HG3 := Lib.hid hg3
  obtain ⟨b, hb⟩ : ∃ b, (numX (pSign 44 (numX l).2.1).2).1 = b := ⟨_, rfl⟩
  have HB := Lib.hid hb
  rw [hb]
  have c0 : w3.cell? ⟨w1.heap.size, 0, none⟩ = some (.int .i64 a) := cell_of_block hb3 0 _ rfl
  have c1 : w3.cell? ⟨w1.heap.size, 1, none⟩ = some (.int .i64 0) := cell_of_block hb3 1 _ rfl
  have d0 : w3.cell? ⟨w.heap.size, 0, none⟩ = some (.int .i64 0) := cell_of_block hb30 0 _ rfl
  have d1 : w3.cell? ⟨w.heap.size, 1, none⟩ = some (.int .i64 0) := cell_of_block hb30 1 _ rfl
  have f3 := fun j => free_of_block hb3 j
  have f30 := fun j => free_of_block hb30 j
  have hne : w.heap.size ≠ w1.heap.size := by omega
  have hne' : w1.heap.size ≠ w.heap.size := by omega
  have HB30 := Lib.hid hb30
  clear h3 hg3 hb3 hb30 hb
  go_wp2
  have fb : (((w3.setCell ⟨w1.heap.size, 1, none⟩ (.int .i64 b)).setCell ⟨w.heap.size, 0, none⟩ (.int .i64 a)).setCell ⟨w.heap.size, 1, none⟩ (.int .i64 b)).heap[w.heap.size]? = some (.cells #[.int .i64 a, .int .i64 b] 28 (0, 0)) :=
    set2 _ _ ((Below.heap_setCell _ _ _ _ hne).trans HB30.out)
  have f0 := cell_of_block fb 0 _ rfl
  have f1 := cell_of_block fb 1 _ rfl
  refine bodyPost_ret (v := .agg #[.int .i64 a, .int .i64 b]) (by simp [results, Tryz.results189, go_sem, f0, f1]) rfl ⟨?_, ?_, ?_⟩
  · unfold vecX; rw [HA.out, HB.out]
  · have e : (!(pSign 44 (numX l).2.1).1 || (no || (numX l).2.2) || (numX (pSign 44 (numX l).2.1).2).2.2) = (no || (vecX l).2.2) := by
      unfold vecX
      cases no <;> cases (numX l).2.2 <;> cases (pSign 44 (numX l).2.1).1 <;> cases (numX (pSign 44 (numX l).2.1).2).2.2 <;> rfl
    have := ((H3.out.setOther (show w1.heap.size ≠ g by omega) (j := 1) (.int .i64 b)).setOther (show w.heap.size ≠ g by omega) (j := 0) (.int .i64 a)).setOther (show w.heap.size ≠ g by omega) (j := 1) (.int .i64 b)
    rw [e] at this
    exact this
  · have k1 : Gb g w w1 := (Gb.of_below (below_alloc' (Below.refl _ _) _)).trans HG1.out
    have k3 : Gb g w w3 := ((k1.alloc _).trans HG2.out).trans HG3.out
    exact ((k3.setNew (by omega) _).setNew (Nat.le_refl _) _).setNew (Nat.le_refl _) _

theorem sep_low {w : World} {b n size g : Nat} {e : TypeId} {v : Value} {xs : List Value} (h : w.ownsRow b e size v n xs) (hg : g < b) : v.ownBlock = none ∨ v.ownBlock ≠ some g := by
  by_cases hv : v.ownBlock = none
  · exact .inl hv
  · exact .inr fun e => by have := (h.lt g e).1; omega
theorem Gb.grown {g : Nat} {w a b : World} {row : Option Nat} (h : Gb g w a) (k : a.grownBy b row) (hr : ∀ j, row = some j → w.heap.size ≤ j) : Gb g w b :=
  ⟨k.os.trans h.os, k.tape.trans h.tape, k.output.trans h.output, Nat.le_trans h.size k.size, fun i hi hn => (k.block i (Nat.lt_of_lt_of_le hi h.size) (fun e => by have := hr i (by first | exact e | exact e.symm); omega)).trans (h.block i hi hn)⟩
theorem block_far {a b : World} {row : Option Nat} {g : Nat} {o : Obj} (k : a.grownBy b row) (h : a.heap[g]? = some o) (hr : row ≠ some g) : b.heap[g]? = some o :=
  (k.block g (Array.getElem?_eq_some_iff.1 h).1 (fun e => hr (by first | exact e | exact e.symm))).trans h
theorem own_gb {g b n size : Nat} {w a : World} {e : TypeId} {v : Value} {xs : List Value} (h : w.ownsRow b e size v n xs) (k : Gb g w a) (hg : g < b) : a.ownsRow b e size v n xs := World.ownsRow.kept h k (sep_low h hg)
theorem news_row {w : World} {g : Nat} {cs : Array Value} {T : TypeId} (h : w.heap[g]? = some (.cells cs T (0, 0))) : ∀ j u, cs.toList[j]? = some u → w.cell? ((⟨g, 0, none⟩ : Addr).add j) = some u := by
  intro j u hu
  have hadd : (⟨g, 0, none⟩ : Addr).add j = ⟨g, j, none⟩ := by unfold Addr.add; split <;> simp_all
  rw [hadd]
  exact cell_of_block h j u (by simpa using hu)
/-- How much is left to a reader. -/
def leftAt (w : World) (g : Nat) : Nat := match w.cell? ⟨g, 0, none⟩ with | some (.string s) => s.size | _ => 0
theorem RdAt.left {w : World} {g : Nat} {l : List UInt8} {no : Bool} (h : RdAt w g l no) : leftAt w g = l.length := by
  unfold leftAt
  rw [cell_of_block h 0 _ rfl]
  exact str_size l
def strV (l : List UInt8) : Value := .string (str l)
def RowPost (g : Nat) (w : World) (ns : List (List UInt8)) (l : List UInt8) (no : Bool) (e : Ending) (w' : World) : Prop := ∃ v, e = .returned v ∧ Strs w.heap.size w' v (ns.map str) ∧ RdAt w' g l no ∧ Gb g w w'
theorem rowX_end {c : UInt8} {l : List UInt8} (h : (pSign c l).1 = false) (k : Nat) : rowX c k l = ([], l, false) := by
  cases k with
  | zero => rfl
  | succ k => rw [rowX, h]; simp
set_option maxRecDepth 1000000 in
set_option maxHeartbeats 1000000 in
theorem rd_signed (g : Nat) (c : UInt8) (l : List UInt8) (no : Bool) (w : World) (h : RdAt w g l no) (hl : l.length ≤ 4294967280) :
    Calls Tryz.prog 190 #[.pointer (some ⟨g, 0, none⟩), .string ⟨#[c]⟩] w (RowPost g w (rowX c l.length l).1 (rowX c l.length l).2.1 (no || (rowX c l.length l).2.2)) := by
  have hg : g < w.heap.size := (Array.getElem?_eq_some_iff.1 h).1
  have H := Lib.hid h
  clear h
  go_enter Tryz.func190, Tryz.ntmps190
  go_wp2
  go_loopw [5] (fun v wr => ∃ (rest : List UInt8) (nb : Bool) (acc : List (List UInt8)) (k : Nat), RdAt wr g rest (no || nb) ∧ wr.ownsRow w.heap.size 9 1 v acc.length (acc.map strV) ∧ Gb g w wr ∧ rest.length ≤ k ∧ k + acc.length ≤ l.length ∧
      rowX c l.length l = (acc ++ (rowX c k rest).1, (rowX c k rest).2.1, nb || (rowX c k rest).2.2)) (fun _ wr => leftAt wr g)
  case atStart => exact ⟨l, false, [], l.length, by rw [Bool.or_false]; exact H.out, World.ownsRow_nil _ _ _ _, Gb.refl _ _, Nat.le_refl _, by simp, by simp⟩
  case round =>
    obtain ⟨rest, nb, acc, k, hr, hown, hgb, hrk, hkl, heq⟩ := hrel
    have HR := Lib.hid hr
    have HO := Lib.hid hown
    have HG := Lib.hid hgb
    have HE := Lib.hid heq
    have hleft := hr.left
    have HLEFT := Lib.hid hleft
    clear hr hown hgb heq hleft
    go_wp2_with fail
    refine (rd_sign g c rest (no || nb) _ HR.out).mono ?_
    rintro e w1 ⟨rfl, h1, hg1⟩
    have H1 := Lib.hid h1
    have HG1 := Lib.hid (HG.out.trans hg1)
    have HO1 := Lib.hid (own_gb HO.out hg1 hg)
    clear h1 hg1
    cases hs : (pSign c rest).1 with
    | false =>
      have hend := rowX_end hs k
      have hrest : (pSign c rest).2 = rest := by have := pSign_inv c rest; rw [hs] at this; simpa using this.symm
      have HS := Lib.hid hend
      have HRS := Lib.hid hrest
      clear hend hrest
      go_wp2_with fail
      refine (clone_strs w1 u5 acc.length w.heap.size _ HO1.out (by intro u hu; obtain ⟨x, _, rfl⟩ := List.mem_map.1 hu; rfl) (by omega)).mono ?_
      rintro e w2 ⟨v', rfl, ho2, hb2⟩
      have HO2 := Lib.hid ho2
      have HB2 := Lib.hid hb2
      clear ho2 hb2
      go_wp2
      go_ret
      refine ⟨v', rfl, ?_, ?_, ?_⟩
      · rw [HE.out, HS.out]
        have := own_base HO2.out HG1.out.size
        unfold Strs
        rw [List.append_nil, List.length_map, List.map_map]
        exact this
      · rw [HE.out, HS.out]
        have := block_below H1.out HB2.out
        rw [HRS.out] at this
        simpa [RdAt] using this
      · exact HG1.out.trans (Gb.of_below HB2.out)
    | true =>
      have hlen := sign_len c rest
      rw [hs] at hlen
      have hr1 : 1 ≤ rest.length := by
        cases hr : rest with
        | nil => rw [hr] at hs; simp [pSign] at hs
        | cons => simp
      simp only [if_true] at hlen
      obtain ⟨k, rfl⟩ : ∃ m, k = m + 1 := ⟨k - 1, by omega⟩
      have hstep : rowX c (k + 1) rest = ((nameX (pSign c rest).2).1 :: (rowX c k (nameX (pSign c rest).2).2.1).1, (rowX c k (nameX (pSign c rest).2).2.1).2.1, (nameX (pSign c rest).2).2.2 || (rowX c k (nameX (pSign c rest).2).2.1).2.2) := by rw [rowX, hs]; simp
      have HST := Lib.hid hstep
      have hnl := nameX_len (pSign c rest).2
      clear hstep
      go_wp2_with fail
      refine (rd_name g (pSign c rest).2 (no || nb) _ H1.out (by omega)).mono ?_
      rintro e w2 ⟨rfl, h2, hg2⟩
      have H2 := Lib.hid h2
      have HG2 := Lib.hid (HG1.out.trans hg2)
      have HO2 := Lib.hid (own_gb HO1.out hg2 hg)
      clear h2 hg2
      go_wp2_with (at_builtin; refine list_appends elt_strs _ _ rfl rfl rfl rfl (World.ownsRow.alloc HO2.out _) (show [strV (nameX (pSign c rest).2).1].length = 1 * 1 from rfl) (news_row (alloc_at _ _)) (by simp [Value.oneCell', strV]) (by omega) (by have := HG2.out.size; simp; omega) ?_; intro v' w3 hown hgrow; have HO3 := Lib.hid hown; have HG3 := Lib.hid hgrow; clear hown hgrow)
      go_roundw
      case rel =>
        refine ⟨(nameX (pSign c rest).2).2.1, nb || (nameX (pSign c rest).2).2.2, acc ++ [(nameX (pSign c rest).2).1], k, ?_, ?_, ?_, by omega, by simp; omega, ?_⟩
        · rw [← Bool.or_assoc]
          exact block_far HG3.out (H2.out.alloc _) (fun e => by have := (HO2.out.lt g e).1; omega)
        · simpa using HO3.out
        · exact Gb.grown (HG2.out.alloc _) HG3.out (fun j e => (HO2.out.lt j e).1)
        · rw [HE.out, HST.out]; simp [Bool.or_assoc]
      case measure =>
        have h3 : RdAt w3 g (nameX (pSign c rest).2).2.1 (no || nb || (nameX (pSign c rest).2).2.2) := block_far HG3.out (H2.out.alloc _) (fun e => by have := (HO2.out.lt g e).1; omega)
        rw [h3.left, HLEFT.out]
        omega
end Go.Proofs.YtikamehjeaoilaaGreatDoor
