/- spec.Node, by the program: whether a node may be. -/
import Derived.Test.YtofofjfmhaggmaaGreatDoorRg
import Derived.Test.YtofofjfmhaggmaaGreatDoorShelf
set_option linter.unusedVariables false
set_option linter.unusedSimpArgs false
namespace Go.Proofs.YtofofjfmhaggmaaGreatDoor
open Go.RowKit

theorem str_toList (l : List UInt8) : (str l).toList = l := by rw [ByteArray.toList_eq]; simp [str]
theorem rises_snoc (b : List UInt8) : ∀ l : List (List UInt8), rises (l ++ [b]) = (rises l && match l.getLast? with | some a => Op.bytesLess a b | none => true)
  | [] => rfl
  | [a] => by simp [rises]
  | a :: c :: t => by
    have ih := rises_snoc b (c :: t)
    simp only [List.cons_append] at ih ⊢
    rw [rises, ih, rises, Bool.and_assoc]
    simp
theorem setGo_take (ls : List (List UInt8)) : ∀ k, k ≤ ls.length → setGo (ls.map str) k = ((ls.take k).all nameB && rises (ls.take k))
  | 0, _ => by simp [setGo, rises]
  | k + 1, hk => by
    have ih := setGo_take ls k (by omega)
    have hlt : k < ls.length := by omega
    have e1 : (ls.map str).getD k ByteArray.empty = str ls[k] := by
      rw [List.getD_eq_getElem?_getD, List.getElem?_map, List.getElem?_eq_getElem hlt]; rfl
    rw [setGo, ih, e1, List.take_succ_eq_append_getElem hlt, rises_snoc, List.all_append, str_toList]
    have e2 : (!(decide (0 < k) && !Op.bytesLess ((ls.map str).getD (k - 1) ByteArray.empty).toList ls[k])) = (match (ls.take k).getLast? with | some a => Op.bytesLess a ls[k] | none => true) := by
      by_cases h0 : k = 0
      · subst h0; simp
      · have hk1 : k - 1 < ls.length := by omega
        have e3 : (ls.map str).getD (k - 1) ByteArray.empty = str ls[k - 1] := by
          rw [List.getD_eq_getElem?_getD, List.getElem?_map, List.getElem?_eq_getElem hk1]; rfl
        have e4 : (ls.take k).getLast? = some ls[k - 1] := by
          rw [List.getLast?_eq_getElem?, List.length_take, Nat.min_eq_left (by omega), List.getElem?_take_of_lt (by omega), List.getElem?_eq_getElem hk1]
        rw [e3, e4, str_toList]
        simp [Nat.pos_of_ne_zero h0]
    rw [e2]
    show ((ls.take k).all nameB && rises (ls.take k) && (nameB ls[k] && _)) = _
    simp only [List.all_cons, List.all_nil, Bool.and_true]
    generalize (match (ls.take k).getLast? with | some a => Op.bytesLess a ls[k] | none => true) = z
    cases (ls.take k).all nameB <;> cases rises (ls.take k) <;> cases nameB ls[k] <;> cases z <;> rfl
theorem setS_B (ls : List (List UInt8)) : setS (ls.map str) = setB ls := by
  unfold setS setB
  rw [List.length_map, setGo_take ls _ (Nat.le_refl _), List.take_length]
/-- Texts that are not too many, nor too long. -/
def few (ls : List (List UInt8)) : Prop := ls.length ≤ 4294967280 ∧ ∀ x ∈ ls, x.length ≤ 4294967280
theorem Texts.of_strs {base : Nat} {w : World} {v : Value} {ls : List (List UInt8)} (h : Strs base w v (ls.map str)) (hf : few ls) : Texts w v (ls.map str) := by
  have h' := h
  unfold Strs at h
  rcases own_forms h with ⟨rfl, h1, h2⟩ | ⟨g, cap, rfl, _, _⟩
  · refine ⟨none, 0, by rw [h1], by omega, fun x hx => ?_, fun i hi => by omega⟩
    have : ls.map str = [] := List.length_eq_zero_iff.1 h1
    rw [this] at hx; cases hx
  · refine ⟨some ⟨g, 0, none⟩, cap, rfl, ?_, fun x hx => ?_, fun i hi => ⟨g, 0, rfl, ?_⟩⟩
    · rw [List.length_map]; have := hf.1; omega
    · obtain ⟨y, hy, rfl⟩ := List.mem_map.1 hx
      have := hf.2 y hy
      rw [str_size]; unfold maxLen; omega
    · rw [Nat.zero_add, h.cellAt i (by rw [Nat.mul_one]; exact hi)]
      have hi' : i < ls.length := by simpa using hi
      rw [List.getD_eq_getElem?_getD, List.getElem?_map, List.getElem?_map, List.getElem?_eq_getElem hi']
      rfl
/-- What is wrong with a node. -/
def errN (n : NodeL) : Int := if nameB n.name = false then 1 else if (decide (n.cpu ≤ 1099511627776) && decide (n.mem ≤ 1099511627776)) = false then 2 else if (setB n.marks && setB n.taints) = false then 1 else 0
def NodeL.few (n : NodeL) : Prop := n.name.length ≤ 4294967280 ∧ Proofs.YtofofjfmhaggmaaGreatDoor.few n.marks ∧ Proofs.YtofofjfmhaggmaaGreatDoor.few n.taints ∧ n.cpu ≤ 4611686018427387904 ∧ n.mem ≤ 4611686018427387904
theorem set_is {v : Value} {ls : List (List UInt8)} {b : Bool} {w : World} (hl : Texts w v (ls.map str)) (h : setB ls = b) : Calls Tryz.prog 106 #[v] w fun e w' => e = .returned (.bool b) ∧ Below w.heap.size w w' := by
  rw [← h, ← setS_B]; exact set_any v _ w hl
theorem part_is (c : Nat) (b : Bool) (h : decide (c ≤ 1099511627776) = b) (w : World) : Calls Tryz.prog 134 #[.int .i64 c] w fun e w' => e = .returned (.bool b) ∧ w = w' := by
  subst h
  have i3 : (0 : Int) ≤ c := by omega
  by_cases h1 : c ≤ 1099511627776
  · have i1 : (c : Int) ≤ 1099511627776 := by omega
    go_enter Tryz.func134, Tryz.ntmps134
    go_wp2
    go_ret
    exact ⟨ret_bool (by simp [h1]), rfl⟩
  · have i1 : ¬ (c : Int) ≤ 1099511627776 := by omega
    go_enter Tryz.func134, Tryz.ntmps134
    go_wp2
    go_ret
    exact ⟨ret_bool (by simp [h1]), rfl⟩
theorem room_is (c m : Nat) (b : Bool) (h : (decide (c ≤ 1099511627776) && decide (m ≤ 1099511627776)) = b) (w : World) : Calls Tryz.prog 105 #[.agg #[.int .i64 c, .int .i64 m]] w fun e w' => e = .returned (.bool b) ∧ Below w.heap.size w w' := by
  subst h
  cases h1 : decide (c ≤ 1099511627776) with
  | false =>
    go_enter Tryz.func105, Tryz.ntmps105
    go_wp2_with (go_at_call 134; refine (part_is c false h1 _).mono ?_; rintro e w1 ⟨rfl, rfl⟩)
    go_ret
    exact ⟨rfl, below_alloc' (Below.refl _ _) _⟩
  | true =>
    go_enter Tryz.func105, Tryz.ntmps105
    go_wp2_with fail
    refine (part_is c true h1 _).mono ?_
    rintro e w1 ⟨rfl, rfl⟩
    go_wp2_with fail
    refine (part_is m _ rfl _).mono ?_
    rintro e w1 ⟨rfl, rfl⟩
    go_wp2
    go_ret
    exact ⟨rfl, below_alloc' (Below.refl _ _) _⟩
set_option maxRecDepth 1000000 in
set_option maxHeartbeats 2000000 in
theorem snode_any (b0 : Nat) (v : Value) (n : NodeL) (w : World) (hn : NodeAt b0 w v n) (hf : n.few) :
    Calls Tryz.prog 79 #[v] w fun e w' => e = .returned (.int .i64 (errN n)) ∧ Below w.heap.size w w' := by
  obtain ⟨u, x, rfl, ou, ox⟩ := hn
  obtain ⟨f1, f2, f3, f4, f5⟩ := hf
  have HU := Lib.hid (Texts.of_strs ou f2)
  have HX := Lib.hid (Texts.of_strs ox f3)
  obtain ⟨au, lu, cu, rfl⟩ := own_slice ou
  obtain ⟨ax, lx, cx, rfl⟩ := own_slice ox
  have hs : (str n.name).size ≤ maxLen := by rw [str_size]; unfold maxLen; omega
  have HS := Lib.hid hs
  obtain ⟨nm, hnm⟩ : ∃ y, str n.name = y := ⟨_, rfl⟩
  have hq : nameS nm = nameB n.name := by rw [← hnm]; rfl
  rw [hnm] at HS
  rw [hnm]
  have hB : ∀ (o : Obj) (w1 : World), Below (w.alloc o).heap.size (w.alloc o) w1 → Below w.heap.size w w1 := fun o w1 h => below_call (below_alloc' (Below.refl _ _) o) h
  have HBW := Lib.hid hB
  clear ou ox f1 f2 f3 hs hB
  cases h1 : nameB n.name with
  | false =>
    have Q := Lib.hid (hq.trans h1)
    have HE := Lib.hid (show errN n = 1 by unfold errN; rw [h1]; rfl)
    clear hq h1 hnm
    go_enter Tryz.func79, Tryz.ntmps79
    go_wp2_with fail
    refine (name_is HS.out Q.out _).mono ?_
    rintro e w1 ⟨rfl, hb1⟩
    have HB1 := Lib.hid (HBW.out _ _ hb1)
    clear hb1
    go_wp2
    go_ret
    exact ⟨ret_int HE.out.symm, HB1.out⟩
  | true =>
    have Q := Lib.hid (hq.trans h1)
    have H1 := Lib.hid h1
    clear hq h1 hnm
    go_enter Tryz.func79, Tryz.ntmps79
    go_wp2_with fail
    refine (name_is HS.out Q.out _).mono ?_
    rintro e w1 ⟨rfl, hb1⟩
    have HB1 := Lib.hid (HBW.out _ _ hb1)
    have HBB := Lib.hid hb1
    have c0 := cell_below (cell_of_block (alloc_at w (.cells #[.string nm, .int .i64 n.cpu, .int .i64 n.mem, .slice au lu cu, .slice ax lx cx, .bool n.closed] 60)) 0 _ rfl) hb1
    have c1 := cell_below (cell_of_block (alloc_at w (.cells #[.string nm, .int .i64 n.cpu, .int .i64 n.mem, .slice au lu cu, .slice ax lx cx, .bool n.closed] 60)) 1 _ rfl) hb1
    have c2 := cell_below (cell_of_block (alloc_at w (.cells #[.string nm, .int .i64 n.cpu, .int .i64 n.mem, .slice au lu cu, .slice ax lx cx, .bool n.closed] 60)) 2 _ rfl) hb1
    have c3 := cell_below (cell_of_block (alloc_at w (.cells #[.string nm, .int .i64 n.cpu, .int .i64 n.mem, .slice au lu cu, .slice ax lx cx, .bool n.closed] 60)) 3 _ rfl) hb1
    have c4 := cell_below (cell_of_block (alloc_at w (.cells #[.string nm, .int .i64 n.cpu, .int .i64 n.mem, .slice au lu cu, .slice ax lx cx, .bool n.closed] 60)) 4 _ rfl) hb1
    have HC := Lib.hid (And.intro c3 c4)
    by_cases h2 : n.cpu ≤ 1099511627776 ∧ n.mem ≤ 1099511627776
    · obtain ⟨h2a, h2b⟩ := h2
      have i1 : (n.cpu : Int) ≤ 1099511627776 := by omega
      have i2 : (n.mem : Int) ≤ 1099511627776 := by omega
      have i3 : (0 : Int) ≤ n.cpu := by omega
      have i4 : (0 : Int) ≤ n.mem := by omega
      have HE := Lib.hid (show errN n = if (setB n.marks && setB n.taints) = false then 1 else 0 by unfold errN; rw [H1.out]; simp [h2a, h2b])
      clear hb1
      go_wp2_with fail
      refine (room_is n.cpu n.mem true (by simp [h2a, h2b]) _).mono ?_
      rintro e w2 ⟨rfl, hb2⟩
      have HB2 := Lib.hid (below_call HB1.out hb2)
      have c3' := cell_below HC.out.1 hb2
      have c4' := cell_below HC.out.2 hb2
      clear hb2
      cases h3 : setB n.marks with
      | false =>
        have H3 := Lib.hid h3
        clear h3
        go_wp2_with fail
        refine (set_is (HU.out.below HB2.out) H3.out).mono ?_
        rintro e w3 ⟨rfl, hb3⟩
        have HB3 := Lib.hid (below_call HB2.out hb3)
        clear hb3
        go_wp2
        go_ret
        exact ⟨ret_int (by rw [HE.out, H3.out]; rfl), HB3.out⟩
      | true =>
        have H3 := Lib.hid h3
        clear h3
        go_wp2_with fail
        refine (set_is (HU.out.below HB2.out) H3.out).mono ?_
        rintro e w3 ⟨rfl, hb3⟩
        have HB3 := Lib.hid (below_call HB2.out hb3)
        have c4'' := cell_below c4' hb3
        clear hb3
        cases h4 : setB n.taints
        all_goals
          have H4 := Lib.hid h4
          clear h4
          go_wp2_with fail
          refine (set_is (HX.out.below HB3.out) H4.out).mono ?_
          rintro e w4 ⟨rfl, hb4⟩
          have HB4 := Lib.hid (below_call HB3.out hb4)
          clear hb4
          go_wp2
          go_ret
          exact ⟨ret_int (by rw [HE.out, H3.out, H4.out]; rfl), HB4.out⟩
    · have HE := Lib.hid (show errN n = 2 by unfold errN; rw [H1.out]; simp; omega)
      have h2f : (decide (n.cpu ≤ 1099511627776) && decide (n.mem ≤ 1099511627776)) = false := by
        rw [Bool.and_eq_false_iff, decide_eq_false_iff_not, decide_eq_false_iff_not]; omega
      have H2F := Lib.hid h2f
      clear hb1 h2f h2
      go_wp2_with fail
      refine (room_is n.cpu n.mem false H2F.out _).mono ?_
      rintro e w2 ⟨rfl, hb2⟩
      have HB2 := Lib.hid (below_call HB1.out hb2)
      clear hb2
      go_wp2
      go_ret
      exact ⟨ret_int HE.out.symm, HB2.out⟩
end Go.Proofs.YtofofjfmhaggmaaGreatDoor
/-! Lines: words, kinds, a node's line read, by the program. -/
set_option linter.unusedVariables false
set_option linter.unusedSimpArgs false
namespace Go.Proofs.YtofofjfmhaggmaaGreatDoor
open Go.RowKit

/-- What the library's variables hold. -/
def Tabs (w : World) : Prop := Lib.TabIs Tryz.prog w "internal/strconv.uint64pow10" .u64 Lib.pow10Tab ∧ Lib.TabIs Tryz.prog w "strings.asciiSpace" .u8 Lib.asciiSpaceTab ∧ ∃ m, w.cell? ⟨4, 0, none⟩ = some (.int .i64 m)
theorem tab_below {w w' : World} {n : String} {k : IntKind} {zs : List Int} (h : Lib.TabIs Tryz.prog w n k zs) (hb : Below w.heap.size w w') : Lib.TabIs Tryz.prog w' n k zs := by
  unfold Lib.TabIs World.var? at h ⊢
  cases hg : Tryz.prog.globalNamed n with
  | none => rw [hg] at h; cases h
  | some g =>
    rw [hg] at h
    simp only [Option.bind_some] at h ⊢
    match hh : w.heap[g]? with
    | none => rw [hh] at h; cases h
    | some o => rw [block_below hh hb]; rw [hh] at h; exact h
theorem Tabs.below {w w' : World} (h : Tabs w) (hb : Below w.heap.size w w') : Tabs w' := ⟨tab_below h.1 hb, tab_below h.2.1 hb, by obtain ⟨m, hm⟩ := h.2.2; exact ⟨m, cell_below hm hb⟩⟩

/-- Texts in a block of their own. -/
def Blk (w : World) (g : Nat) (ls : List (List UInt8)) : Prop := w.heap[g]? = some (.cells (ls.map strV).toArray 9 (0, 0))
theorem Blk.cell {w : World} {g : Nat} {ls : List (List UInt8)} (h : Blk w g ls) {j : Nat} (hj : j < ls.length) : w.cell? ⟨g, j, none⟩ = some (.string (str ls[j])) :=
  cell_of_block h j _ (by simp [hj, strV])
theorem Blk.cells {w : World} {g : Nat} {ls : List (List UInt8)} (h : Blk w g ls) : ∀ j, j < (ls.map str).length → w.cell? ⟨g, 0 + j, none⟩ = some (.string ((ls.map str).getD j ByteArray.empty)) := by
  intro j hj
  have hj' : j < ls.length := by simpa using hj
  rw [Nat.zero_add, h.cell hj', List.getD_eq_getElem?_getD, List.getElem?_map, List.getElem?_eq_getElem hj']
  rfl
theorem Blk.below {w w' : World} {g : Nat} {ls : List (List UInt8)} (h : Blk w g ls) (k : Below w.heap.size w w') : Blk w' g ls := block_below h k
/-! ### Kinds -/
theorem fields_const (s : ByteArray) (ws : List (List UInt8)) (he : Lib.fields s.data.toList = ws) (ha : s.data.toList.all (fun b => decide (b.toNat < 128)) = true) (hs : s.size < 4294967281) (w : World) (ht : Tabs w) :
    Calls Tryz.prog 135 #[.string s] w fun e w' => e = .returned (.slice (some ⟨w.heap.size, 0, none⟩) ws.length ws.length) ∧ Blk w' w.heap.size ws ∧ Below w.heap.size w w' := by
  refine (Tryz.strings_Fields_laid s w hs (fun j b hb => by simpa using List.all_eq_true.1 ha b (List.mem_of_getElem? hb)) ht.2.1).mono ?_
  rintro e w' ⟨rfl, rfl⟩
  rw [he]
  exact ⟨rfl, alloc_at _ _, below_alloc' (Below.refl _ _) _⟩
def lverbs : List (List UInt8) := [[110, 111, 100, 101], [103, 111, 110, 101], [112, 114, 101, 112, 97, 114, 101], [99, 111, 109, 109, 105, 116], [97, 98, 111, 114, 116], [114, 101, 108, 101, 97, 115, 101], [103, 97, 110, 103]]
theorem lverbs_fields : Lib.fields [110, 111, 100, 101, 32, 103, 111, 110, 101, 32, 112, 114, 101, 112, 97, 114, 101, 32, 99, 111, 109, 109, 105, 116, 32, 97, 98, 111, 114, 116, 32, 114, 101, 108, 101, 97, 115, 101, 32, 103, 97, 110, 103] = lverbs := by decide +kernel
end Go.Proofs.YtofofjfmhaggmaaGreatDoor
/-! A node's line, read by the program. -/
set_option linter.unusedVariables false
set_option linter.unusedSimpArgs false
namespace Go.Proofs.YtofofjfmhaggmaaGreatDoor
open Go.RowKit

def laid (cs : Array Value) : Nat → List Value → Array Value
  | _, [] => cs
  | o, v :: r => laid (cs.setIfInBounds o v) (o + 1) r
theorem heap_setCells (g : Nat) (T : TypeId) : ∀ (vs : List Value) (o : Nat) (w : World) (cs : Array Value), w.heap[g]? = some (.cells cs T (0, 0)) → (w.setCells g o vs).heap[g]? = some (.cells (laid cs o vs) T (0, 0))
  | [], _, _, _, h => h
  | v :: r, o, w, cs, h => heap_setCells g T r (o + 1) _ _ (heap_setCell_same _ _ _ _ _ _ h)
end Go.Proofs.YtofofjfmhaggmaaGreatDoor
/-! A node's word, read by the program: Check, Parse, play's node. -/
set_option linter.unusedVariables false
set_option linter.unusedSimpArgs false
namespace Go.Proofs.YtofofjfmhaggmaaGreatDoor
open Go.RowKit

end Go.Proofs.YtofofjfmhaggmaaGreatDoor
/-! A node's word, read by the program: Parse, play's node. -/
set_option linter.unusedVariables false
set_option linter.unusedSimpArgs false
namespace Go.Proofs.YtofofjfmhaggmaaGreatDoor
open Go.RowKit

end Go.Proofs.YtofofjfmhaggmaaGreatDoor
