/- Lines: words, kinds, a node's line read, by the program. -/
import Derived.Test.YtikamehjeaoilaaGreatDoorSn
import Derived.Test.YtikamehjeaoilaaGreatDoorShelf
set_option linter.unusedVariables false
set_option linter.unusedSimpArgs false
namespace Go.Proofs.YtikamehjeaoilaaGreatDoor
open Go.RowKit

/-- What the library's variables hold. -/
def Tabs (w : World) : Prop := Lib.TabIs Tryz.prog w "internal/strconv.uint64pow10" .u64 Lib.pow10Tab ∧ Lib.TabIs Tryz.prog w "strings.asciiSpace" .u8 Lib.asciiSpaceTab ∧ ∃ m, w.cell? ⟨2, 0, none⟩ = some (.int .i64 m)
theorem tab_below {w w' : World} {n : String} {k : IntKind} {zs : List Int} (h : Lib.TabIs Tryz.prog w n k zs) (hb : Below w.heap.size w w') : Lib.TabIs Tryz.prog w' n k zs := by
  unfold Lib.TabIs World.var? at h ⊢
  cases hg : Tryz.prog.globalNamed n with
  | none => rw [hg] at h; cases h
  | some g =>
    rw [hg] at h
    simp only [Option.bind_some] at h ⊢
    match hh : w.heap[g]? with
    | none => rw [hh] at h; cases h
    | some o => rw [block_below hh hb]; rw [hh] at h; exact h
theorem Tabs.below {w w' : World} (h : Tabs w) (hb : Below w.heap.size w w') : Tabs w' := ⟨tab_below h.1 hb, tab_below h.2.1 hb, by obtain ⟨m, hm⟩ := h.2.2; exact ⟨m, cell_below hm hb⟩⟩

theorem str_data (l : List UInt8) : (str l).data.toList = l := by simp [str]
theorem bytes_data (s : ByteArray) : str s.data.toList = s := by apply ByteArray.ext; simp [str]
/-- Texts in a block of their own. -/
def Blk (w : World) (g : Nat) (ls : List (List UInt8)) : Prop := w.heap[g]? = some (.cells (ls.map strV).toArray 9 (0, 0))
theorem Blk.cell {w : World} {g : Nat} {ls : List (List UInt8)} (h : Blk w g ls) {j : Nat} (hj : j < ls.length) : w.cell? ⟨g, j, none⟩ = some (.string (str ls[j])) :=
  cell_of_block h j _ (by simp [hj, strV])
theorem Blk.cells {w : World} {g : Nat} {ls : List (List UInt8)} (h : Blk w g ls) : ∀ j, j < (ls.map str).length → w.cell? ⟨g, 0 + j, none⟩ = some (.string ((ls.map str).getD j ByteArray.empty)) := by
  intro j hj
  have hj' : j < ls.length := by simpa using hj
  rw [Nat.zero_add, h.cell hj', List.getD_eq_getElem?_getD, List.getElem?_map, List.getElem?_eq_getElem hj']
  rfl
theorem Blk.below {w w' : World} {g : Nat} {ls : List (List UInt8)} (h : Blk w g ls) (k : Below w.heap.size w w') : Blk w' g ls := block_below h k
theorem Blk.texts {w : World} {g c : Nat} {ls : List (List UInt8)} (h : Blk w g ls) (hf : few ls) : Texts w (.slice (some ⟨g, 0, none⟩) ls.length c) (ls.map str) := by
  refine ⟨some ⟨g, 0, none⟩, c, by rw [List.length_map], by rw [List.length_map]; have := hf.1; omega, fun x hx => ?_, fun i hi => ⟨g, 0, rfl, h.cells i hi⟩⟩
  obtain ⟨y, hy, rfl⟩ := List.mem_map.1 hx
  have := hf.2 y hy
  rw [str_size]; unfold maxLen; omega
theorem split_any (s : List UInt8) (c : UInt8) (w : World) (ht : Tabs w) (hs : s.length ≤ 4294967280) : Calls Tryz.prog 19 #[.string (str s), .string ⟨#[c]⟩] w fun e w' =>
    e = .returned (.slice (some ⟨w.heap.size, 0, none⟩) (splitC c s).length (splitC c s).length) ∧ Blk w' w.heap.size (splitC c s) ∧ Below w.heap.size w w' := by
  obtain ⟨m, hm⟩ := ht.2.2
  refine (Tryz.strings_Split (str s) ⟨#[c]⟩ m w (by rw [str_size]; omega) hm (Nat.le_refl 1)).mono ?_
  rintro e w' ⟨rfl, rfl⟩
  have e1 : Lib.splitB ⟨#[c]⟩ 0 (Lib.countB (str s) ⟨#[c]⟩) (str s) = (splitC c s).map str := by
    have h1 := Lib.splitB_data ⟨#[c]⟩ 0 (Lib.countB (str s) ⟨#[c]⟩) (str s)
    have h2 : Lib.countB (str s) ⟨#[c]⟩ = Lib.count s [c] := by show Lib.count _ _ = _; rw [str_data]
    rw [str_data, h2] at h1
    have h3 : (⟨#[c]⟩ : ByteArray).data.toList = [c] := rfl
    rw [h3, show Lib.splitK [c] 0 (Lib.count s [c]) s = splitC c s from split_C s c] at h1
    rw [h2, ← h1, List.map_map]
    conv => lhs; rw [← List.map_id (Lib.splitB ⟨#[c]⟩ 0 (Lib.count s [c]) (str s))]
    exact List.map_congr_left fun x _ => (bytes_data x).symm
  have e2 : Lib.countB (str s) ⟨#[c]⟩ + 1 = (splitC c s).length := by
    rw [← Lib.splitB_all ⟨#[c]⟩ (Nat.le_refl 1) 0 _ _ rfl, e1, List.length_map]
  rw [e1, e2]
  refine ⟨rfl, ?_, below_alloc' (Below.refl _ _) _⟩
  have := alloc_at w (.cells (((splitC c s).map str).map Value.string).toArray 9)
  rw [List.map_map] at this ⊢
  exact this
theorem has_empty (g c : Nat) (ls : List (List UInt8)) (w : World) (h : Blk w g ls) (hf : ls.length ≤ 4294967281) : Calls Tryz.prog 159 #[.slice (some ⟨g, 0, none⟩) ls.length c, .string ⟨#[]⟩] w fun e w' => e = .returned (.bool (decide ([] ∈ ls))) ∧ w = w' := by
  refine (Tryz.slices_Contains_string g 0 ls.length c (ls.map str) ⟨#[]⟩ w (by simp) (by omega) h.cells).mono ?_
  rintro e w' ⟨rfl, rfl⟩
  refine ⟨ret_bool ?_, rfl⟩
  rw [Bool.eq_iff_iff, Lib.containsS_iff, decide_eq_true_eq, List.take_of_length_le (by simp)]
  constructor
  · intro hm
    obtain ⟨x, hx, e⟩ := List.mem_map.1 hm
    have : x = [] := by
      have := congrArg (fun b : ByteArray => b.data.toList) e
      simpa [str_data] using this
    rwa [this] at hx
  · intro hm; exact List.mem_map.2 ⟨[], hm, rfl⟩
theorem splitC_len (c : UInt8) : ∀ l, (splitC c l).length ≤ l.length + 1
  | [] => by simp [splitC]
  | x :: t => by
    have ih := splitC_len c t
    rw [splitC]
    split
    · simp; exact ih
    · split
      · rename_i h r hs; rw [hs] at ih; simp at ih ⊢; omega
      · simp
def WordsPost (s : List UInt8) (w : World) (e : Ending) (w' : World) : Prop :=
  (e = .returned (.slice none 0 0) ∧ wordsL s = [] ∨ ∃ g, e = .returned (.slice (some ⟨g, 0, none⟩) (wordsL s).length (wordsL s).length) ∧ wordsL s = splitC 32 s ∧ w.heap.size ≤ g ∧ Blk w' g (wordsL s)) ∧ Below w.heap.size w w'
theorem words_any (s : List UInt8) (w : World) (ht : Tabs w) (hs : s.length ≤ 4294967280) : Calls Tryz.prog 113 #[.string (str s)] w (WordsPost s w) := by
  have HT := Lib.hid ht
  clear ht
  have hsl := splitC_len 32 s
  go_enter Tryz.func113, Tryz.ntmps113
  go_wp2_with fail
  refine (split_any s 32 _ HT.out hs).mono ?_
  rintro e w1 ⟨rfl, h1, hb1⟩
  have H1 := Lib.hid h1
  have HB1 := Lib.hid hb1
  clear h1 hb1
  cases hc : decide ([] ∈ splitC 32 s)
  all_goals
    have HC := Lib.hid hc
    go_wp2_with fail
    refine (has_empty _ _ _ _ H1.out (by omega)).mono ?_
    rintro e w2 ⟨rfl, rfl⟩
    rw [HC.out]
    clear hc
    go_wp2
    go_ret
  · have e : wordsL s = splitC 32 s := by unfold wordsL; rw [if_neg (of_decide_eq_false HC.out)]
    exact ⟨.inr ⟨_, by rw [e]; rfl, e, Nat.le_refl _, by rw [e]; exact H1.out⟩, HB1.out⟩
  · have e : wordsL s = [] := by unfold wordsL; rw [if_pos (of_decide_eq_true HC.out)]
    exact ⟨.inl ⟨rfl, e⟩, HB1.out⟩

/-! ### Kinds -/
theorem fields_const (s : ByteArray) (ws : List (List UInt8)) (he : Lib.fields s.data.toList = ws) (ha : s.data.toList.all (fun b => decide (b.toNat < 128)) = true) (hs : s.size < 4294967281) (w : World) (ht : Tabs w) :
    Calls Tryz.prog 41 #[.string s] w fun e w' => e = .returned (.slice (some ⟨w.heap.size, 0, none⟩) ws.length ws.length) ∧ Blk w' w.heap.size ws ∧ Below w.heap.size w w' := by
  refine (Tryz.strings_Fields_laid s w hs (fun j b hb => by simpa using List.all_eq_true.1 ha b (List.mem_of_getElem? hb)) ht.2.1).mono ?_
  rintro e w' ⟨rfl, rfl⟩
  rw [he]
  exact ⟨rfl, alloc_at _ _, below_alloc' (Below.refl _ _) _⟩
/-- Where a text stands in a row; -1: nowhere. -/
def foundAt (ls : List (List UInt8)) (x : List UInt8) : Int := match ls.findIdx? (· = x) with | some i => (i : Int) | none => -1
theorem idx_find (x : List UInt8) : ∀ (ls : List (List UInt8)) (k : Nat), Lib.idxFromS (ls.map str) (str x) k = match ls.findIdx? (· = x) with | some i => ((k + i : Nat) : Int) | none => -1
  | [], k => rfl
  | y :: ls, k => by
    rw [List.map_cons, Lib.idxFromS, List.findIdx?_cons]
    by_cases h : y = x
    · subst h; simp
    · have : ¬ str y = str x := fun e => h (by have := congrArg (fun b : ByteArray => b.data.toList) e; simpa [str_data] using this)
      rw [if_neg this, idx_find x ls (k + 1)]
      simp only [h, decide_false, Bool.false_eq_true, if_false]
      cases ls.findIdx? (· = x) with
      | none => rfl
      | some i =>
        show ((k + 1 + i : Nat) : Int) = ((k + (i + 1) : Nat) : Int)
        rw [show k + 1 + i = k + (i + 1) by omega]
theorem index_any (g c : Nat) (ls : List (List UInt8)) (x : List UInt8) (w : World) (h : Blk w g ls) (hf : ls.length ≤ 4294967281) : Calls Tryz.prog 40 #[.slice (some ⟨g, 0, none⟩) ls.length c, .string (str x)] w fun e w' =>
    e = .returned (.int .i64 (foundAt ls x)) ∧ w = w' := by
  refine (Tryz.slices_Index_string g 0 ls.length c (ls.map str) (str x) w (by simp) (by omega) h.cells).mono ?_
  rintro e w' ⟨rfl, rfl⟩
  refine ⟨ret_int ?_, rfl⟩
  rw [List.take_of_length_le (by simp), Lib.idxOfS, idx_find, foundAt]
  cases ls.findIdx? (· = x) <;> simp
def lverbs : List (List UInt8) := [[110, 111, 100, 101], [103, 111, 110, 101], [112, 114, 101, 112, 97, 114, 101], [99, 111, 109, 109, 105, 116], [97, 98, 111, 114, 116], [114, 101, 108, 101, 97, 115, 101], [103, 97, 110, 103]]
theorem lverbs_fields : Lib.fields [110, 111, 100, 101, 32, 103, 111, 110, 101, 32, 112, 114, 101, 112, 97, 114, 101, 32, 99, 111, 109, 109, 105, 116, 32, 97, 98, 111, 114, 116, 32, 114, 101, 108, 101, 97, 115, 101, 32, 103, 97, 110, 103] = lverbs := by decide +kernel
theorem lkind_node (w : World) (ht : Tabs w) : Calls Tryz.prog 150 #[.string (str [110, 111, 100, 101])] w fun e w' => e = .returned (.int .i64 1) ∧ Below w.heap.size w w' := by
  have HT := Lib.hid ht
  clear ht
  obtain ⟨x, hx⟩ : ∃ x, str [110, 111, 100, 101] = x := ⟨_, rfl⟩
  have HX := Lib.hid hx
  rw [hx]
  clear hx
  go_enter Tryz.func150, Tryz.ntmps150
  go_wp2_with fail
  refine (fields_const _ lverbs lverbs_fields (by decide +kernel) (by decide) _ HT.out).mono ?_
  rintro e w1 ⟨rfl, h1, hb1⟩
  have H1 := Lib.hid h1
  have HB1 := Lib.hid hb1
  clear h1 hb1
  go_wp2_with fail
  rw [← HX.out]
  refine (index_any _ _ _ [110, 111, 100, 101] _ H1.out (by decide)).mono ?_
  rintro e w2 ⟨rfl, rfl⟩
  rw [show foundAt lverbs [110, 111, 100, 101] = 0 by decide +kernel]
  go_wp2
  go_ret
  exact ⟨rfl, HB1.out⟩
end Go.Proofs.YtikamehjeaoilaaGreatDoor
