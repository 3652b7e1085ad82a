/- Words on a block of a struct that methods write through a pointer; the signs that part. -/
import Derived.Test.YtofofjfmhaggmaaGreatDoorPt
import Derived.Lib.OthersKept
import Derived.Test.YtofofjfmhaggmaaGreatDoorShelf
import Derived.Test.YtofofjfmhaggmaaGreatDoorProg
import Derived.Lib.SliceRun
set_option linter.unusedVariables false
set_option linter.unusedSimpArgs false
namespace Go.Proofs.YtofofjfmhaggmaaGreatDoor
open Go.RowKit

/-- All but block g stands. -/
abbrev Gb (g : Nat) (w w' : World) : Prop := w.grownBy w' (some g)
theorem Gb.refl (g : Nat) (w : World) : Gb g w w := ⟨rfl, rfl, rfl, Nat.le_refl _, fun _ _ _ => rfl⟩
theorem Gb.trans {g : Nat} {a b c : World} (h : Gb g a b) (k : Gb g b c) : Gb g a c :=
  ⟨k.os.trans h.os, k.tape.trans h.tape, k.output.trans h.output, Nat.le_trans h.size k.size, fun i hi hn => (k.block i (Nat.lt_of_lt_of_le hi h.size) hn).trans (h.block i hi hn)⟩
theorem Gb.of_below {g : Nat} {w w' : World} (h : Below w.heap.size w w') : Gb g w w' := ⟨h.os, h.tape, h.output, h.size, fun k hk _ => h.block k hk⟩
theorem Gb.set (w : World) (g j : Nat) (v : Value) : Gb g w (w.setCell ⟨g, j, none⟩ v) := by
  exact ⟨rfl, rfl, rfl, by simp [World.setCell], fun k hk hg => Below.heap_setCell _ _ _ _ (fun e => hg (by first | rw [e] | (rw [e]; rfl)))⟩
theorem Gb.below {g : Nat} {a w w' : World} {B : Nat} (h : Below B a w) (k : Gb g w w') (hg : B ≤ g) (hB : B ≤ w.heap.size) : Below B a w' :=
  ⟨k.os.trans h.os, k.tape.trans h.tape, k.output.trans h.output, Nat.le_trans h.size k.size, fun i hi => (k.block i (Nat.lt_of_lt_of_le hi hB) (by simp; omega)).trans (h.block i hi)⟩
theorem Gb.block' {g b : Nat} {w w' : World} {o : Obj} (k : Gb g w w') (h : w.heap[b]? = some o) (hne : b ≠ g) : w'.heap[b]? = some o :=
  (k.block b (Array.getElem?_eq_some_iff.1 h).1 (by simpa using hne)).trans h
theorem set2 {w : World} {g : Nat} {T : TypeId} {a b : Value} (x y : Value) (h : w.heap[g]? = some (.cells #[a, b] T (0, 0))) : ((w.setCell ⟨g, 0, none⟩ x).setCell ⟨g, 1, none⟩ y).heap[g]? = some (.cells #[x, y] T (0, 0)) := by
  rw [heap_setCell_same _ g 1 #[x, b] T y (by rw [heap_setCell_same w g 0 #[a, b] T x h]; rfl)]
  rfl
theorem set2a {w : World} {g : Nat} {T : TypeId} {a b : Value} (x : Value) (h : w.heap[g]? = some (.cells #[a, b] T (0, 0))) : (w.setCell ⟨g, 0, none⟩ x).heap[g]? = some (.cells #[x, b] T (0, 0)) := by
  rw [heap_setCell_same w g 0 #[a, b] T x h]; rfl
theorem set2b {w : World} {g : Nat} {T : TypeId} {a b : Value} (y : Value) (h : w.heap[g]? = some (.cells #[a, b] T (0, 0))) : (w.setCell ⟨g, 1, none⟩ y).heap[g]? = some (.cells #[a, y] T (0, 0)) := by
  rw [heap_setCell_same w g 1 #[a, b] T y h]; rfl

end Go.Proofs.YtofofjfmhaggmaaGreatDoor
/-! The program's reader of words: it takes names, signs, numbers. -/
set_option linter.unusedVariables false
set_option linter.unusedSimpArgs false
namespace Go.Proofs.YtofofjfmhaggmaaGreatDoor
open Go.RowKit

/-- A reader's block: what is left, whether something was wrong. -/
def RdAt (w : World) (g : Nat) (l : List UInt8) (no : Bool) : Prop := w.heap[g]? = some (.cells #[.string (str l), .bool no] 213 (0, 0))
end Go.Proofs.YtofofjfmhaggmaaGreatDoor
/-! The program's reader of words: signs and numbers. -/
set_option linter.unusedVariables false
set_option linter.unusedSimpArgs false
namespace Go.Proofs.YtofofjfmhaggmaaGreatDoor
open Go.RowKit

end Go.Proofs.YtofofjfmhaggmaaGreatDoor
/-! Pods and messages in plain terms, and what it means that memory holds them; the three slices.Clone that messages use. -/
set_option linter.unusedVariables false
set_option linter.unusedSimpArgs false
namespace Go.Proofs.YtofofjfmhaggmaaGreatDoor
open Go.RowKit

structure PodM where
  name : ByteArray
  shard : Int
  cpu : Int
  mem : Int
  picks : List ByteArray
  bears : List ByteArray
  alone : Bool

structure MsgM where
  kind : Int
  src : Int
  dst : Int
  gang : Int
  pods : List PodM
  peers : List Int
  yes : Bool

/-- The cells of n elements, one behind the other. -/
def flat (n : Nat) (c : Nat → List Value) : List Value := (List.range n).flatMap c
theorem flat_succ (n : Nat) (c : Nat → List Value) : flat (n + 1) c = flat n c ++ c n := by simp [flat, List.range_succ]
theorem flat_len {n s : Nat} {c : Nat → List Value} (h : ∀ i, i < n → (c i).length = s) : (flat n c).length = n * s := by
  induction n with
  | zero => simp [flat]
  | succ n ih => rw [flat_succ, List.length_append, ih (fun i hi => h i (by omega)), h n (by omega), Nat.succ_mul]
theorem flat_get {n s : Nat} {c : Nat → List Value} (h : ∀ i, i < n → (c i).length = s) {k j : Nat} (hk : k < n) (hj : j < s) : (flat n c)[k * s + j]? = (c k)[j]? := by
  induction n with
  | zero => omega
  | succ n ih =>
    rw [flat_succ]
    have hl := flat_len (n := n) (s := s) (c := c) (fun i hi => h i (by omega))
    by_cases hkn : k < n
    · have hlt : k * s + j < n * s := by
        have : (k + 1) * s ≤ n * s := Nat.mul_le_mul_right s hkn
        rw [Nat.succ_mul] at this
        omega
      rw [List.getElem?_append_left (by omega), ih (fun i hi => h i (by omega)) hkn]
    · obtain rfl : k = n := by omega
      rw [List.getElem?_append_right (by omega), hl, Nat.add_sub_cancel_left]
theorem flat_ext {n : Nat} {c d : Nat → List Value} (h : ∀ i, i < n → c i = d i) : flat n c = flat n d := by
  induction n with
  | zero => rfl
  | succ n ih => rw [flat_succ, flat_succ, ih (fun i hi => h i (by omega)), h n (by omega)]
theorem flat_mem {n : Nat} {c : Nat → List Value} {u : Value} (h : u ∈ flat n c) : ∃ i, i < n ∧ u ∈ c i := by
  simp only [flat, List.mem_flatMap, List.mem_range] at h
  exact h

def Strs (base : Nat) (w : World) (v : Value) (l : List ByteArray) : Prop := w.ownsRow base 9 1 v l.length (l.map Value.string)
def Ints (base : Nat) (w : World) (v : Value) (l : List Int) : Prop := w.ownsRow base 3 1 v l.length (l.map (Value.int .i64))
def PodAt (base : Nat) (w : World) (cs : List Value) (p : PodM) : Prop :=
  ∃ u v, cs = [.string p.name, .int .i64 p.shard, .int .i64 p.cpu, .int .i64 p.mem, u, v, .bool p.alone] ∧ Strs base w u p.picks ∧ Strs base w v p.bears
def noPod : PodM := ⟨ByteArray.empty, 0, 0, 0, [], [], false⟩
def PodsAt (base : Nat) (w : World) (v : Value) (l : List PodM) : Prop :=
  ∃ c, w.ownsRow base 62 7 v l.length (flat l.length c) ∧ ∀ i, i < l.length → PodAt base w (c i) (l.getD i noPod)
def MsgAt (base : Nat) (w : World) (v : Value) (m : MsgM) : Prop :=
  ∃ u x, v = .agg #[.int .i64 m.kind, .int .i64 m.src, .int .i64 m.dst, .int .i64 m.gang, u, x, .bool m.yes] ∧ PodsAt base w u m.pods ∧ Ints base w x m.peers
/-- A message that is not too much. -/
def MsgM.few (m : MsgM) : Prop := m.pods.length ≤ 1073741824 ∧ m.peers.length ≤ 1073741824 ∧ ∀ i, i < m.pods.length → (m.pods.getD i noPod).picks.length ≤ 1073741824 ∧ (m.pods.getD i noPod).bears.length ≤ 1073741824

theorem PodAt.len {base : Nat} {w : World} {cs : List Value} {p : PodM} (h : PodAt base w cs p) : cs.length = 7 := by
  obtain ⟨u, v, rfl, _⟩ := h
  rfl
theorem own_base {w : World} {b b' n : Nat} {e : TypeId} {size : Nat} {v : Value} {xs : List Value} (h : w.ownsRow b e size v n xs) (hb : b' ≤ b) : w.ownsRow b' e size v n xs := by
  obtain ⟨h1, h2⟩ := h
  refine ⟨h1, ?_⟩
  rcases h2 with h2 | ⟨g, cap, cur, h3, h4, h5⟩
  · exact .inl h2
  · exact .inr ⟨g, cap, cur, h3, by omega, h5⟩
/-- Blocks of the given element types are as they were (below what was there). -/
def Still (T : TypeId → Prop) (w w' : World) : Prop := ∀ (g : Nat) (cs : Array Value) (e : TypeId), T e → w.heap[g]? = some (.cells cs e (0, 0)) → w'.heap[g]? = some (.cells cs e (0, 0))
theorem Still.trans {T : TypeId → Prop} {a b c : World} (h : Still T a b) (k : Still T b c) : Still T a c := fun g cs e he hg => k g cs e he (h g cs e he hg)
theorem Still.of_below {T : TypeId → Prop} {w w' : World} (h : Below w.heap.size w w') : Still T w w' := fun g cs e _ hg => block_below hg h
theorem Strs.base {b b' : Nat} {w : World} {v : Value} {l : List ByteArray} (h : Strs b w v l) (hb : b' ≤ b) : Strs b' w v l := own_base h hb
theorem PodAt.base {b b' : Nat} {w : World} {cs : List Value} {p : PodM} (h : PodAt b w cs p) (hb : b' ≤ b) : PodAt b' w cs p := by
  obtain ⟨u, v, e, h1, h2⟩ := h
  exact ⟨u, v, e, own_base h1 hb, own_base h2 hb⟩
theorem PodsAt.base {b b' : Nat} {w : World} {v : Value} {l : List PodM} (h : PodsAt b w v l) (hb : b' ≤ b) : PodsAt b' w v l := by
  obtain ⟨c, h1, h2⟩ := h
  exact ⟨c, own_base h1 hb, fun i hi => (h2 i hi).base hb⟩
theorem MsgAt.base {b b' : Nat} {w : World} {v : Value} {m : MsgM} (h : MsgAt b w v m) (hb : b' ≤ b) : MsgAt b' w v m := by
  obtain ⟨u, x, e, h1, h2⟩ := h
  exact ⟨u, x, e, h1.base hb, own_base h2 hb⟩

theorem own_cells {w : World} {base n g cap size : Nat} {e : TypeId} {xs : List Value} (h : w.ownsRow base e size (.slice (some ⟨g, 0, none⟩) n cap) n xs) : ∀ j u, xs[j]? = some u → w.cell? ((⟨g, 0, none⟩ : Addr).add j) = some u := by
  intro j u hu
  have hadd : (⟨g, 0, none⟩ : Addr).add j = ⟨g, j, none⟩ := by unfold Addr.add; split <;> simp_all
  have hj : j < n * size := by
    have := (List.getElem?_eq_some_iff.1 hu).1
    rw [h.1] at this
    exact this
  rw [hadd, h.cellAt j hj, hu]
theorem own_forms {w : World} {base n size : Nat} {e : TypeId} {v : Value} {xs : List Value} (h : w.ownsRow base e size v n xs) : (v = .slice none 0 0 ∧ n = 0 ∧ xs = []) ∨ ∃ g cap, v = .slice (some ⟨g, 0, none⟩) n cap ∧ base ≤ g ∧ g < w.heap.size := by
  rcases h.2 with ⟨h1, rfl⟩ | ⟨g, cap, cur, h3, h4, h5, _⟩
  · exact .inl ⟨h1, rfl, by have := h.1; simpa using this⟩
  · exact .inr ⟨g, cap, h3, h4, (Array.getElem?_eq_some_iff.1 h5).1⟩

/-- An element type of s cells. -/
def Elt (P : Program) (t e : TypeId) (s bytes : Nat) : Prop := P.underlying t = some (.slice e) ∧ 0 < s ∧ bytes ≤ 128 ∧ ∃ i z, P.info? e = some i ∧ i.zero = some z ∧ i.size = s ∧ i.bytes = bytes ∧ z.cells.size = s
theorem elt_of {P : Program} {t e : TypeId} {s bytes : Nat} (h : P.underlying t = some (.slice e)) (h1 : 0 < s) (h2 : bytes ≤ 128)
    (h3 : (P.info? e).map (fun i => (i.zero.map (fun z => z.cells.size), i.size, i.bytes)) = some (some s, s, bytes)) : Elt P t e s bytes := by
  refine ⟨h, h1, h2, ?_⟩
  match hi : P.info? e with
  | none => rw [hi] at h3; cases h3
  | some i =>
    rw [hi] at h3
    simp only [Option.map_some, Option.some.injEq, Prod.mk.injEq] at h3
    obtain ⟨h4, h5, h6⟩ := h3
    match hz : i.zero with
    | none => rw [hz] at h4; cases h4
    | some z =>
      rw [hz] at h4
      exact ⟨i, z, rfl, hz, h5, h6, by simpa using h4⟩
theorem list_appends {P : Program} {w : World} {ops : Array Oper} {rest : List Oper} {o : Oper} {a : Act} {Q : Exit → Act → World → Prop} {t e : TypeId} {size bytes : Nat} (hE : Elt P t e size bytes) (s x : Operand)
    (hgd : o.guard = none) (ho : o.op = .call { callee := .builtin .append, args := #[s, x], argTypes := #[t, t] }) {v : Value} {n m base g cap : Nat} {xs news : List Value} (hs : a.eval s = v) (hx : a.eval x = .slice (some ⟨g, 0, none⟩) m cap)
    (hown : w.ownsRow base e size v n xs) (hl : news.length = m * size) (hnews : ∀ j u, news[j]? = some u → w.cell? ((⟨g, 0, none⟩ : Addr).add j) = some u) (h1 : ∀ u ∈ news, u.oneCell' = true) (hn : n + m ≤ 1099511627776) (hbase : base ≤ w.heap.size)
    (h : ∀ v' w', w'.ownsRow base e size v' (n + m) (xs ++ news) → w.grownBy w' v.ownBlock → wpList P ops Q rest (a.put o.dst v') w') :
    wpList P ops Q (o :: rest) a w := by
  obtain ⟨q1, q2, q3, i, z, q4, q5, q6, q7, q8⟩ := hE
  have hbb : (n + m) * bytes ≤ 1099511627776 * 128 := Nat.mul_le_mul hn q3
  exact wpList_append_own w hgd s x t ho base e i z size bytes q1 q4 q5 q6 q7 q8 q2 v n xs hs hown ⟨g, 0, none⟩ m cap news hx hl hnews h1 (by simp only [maxLen]; omega) (by omega) hbase fun v' w' a b _ => h v' w' a b
theorem elt_ints : Elt Tryz.prog 22 3 1 8 := elt_of Tryz.underlying22 (by decide) (by decide) (by kernel_rfl)
theorem elt_strs : Elt Tryz.prog 39 9 1 16 := elt_of Tryz.underlying39 (by decide) (by decide) (by kernel_rfl)
set_option maxRecDepth 100000 in
theorem clone_ints (w : World) (v : Value) (n base : Nat) (xs : List Value) (h : w.ownsRow base 3 1 v n xs) (h1 : ∀ u ∈ xs, u.oneCell' = true) (hn : n ≤ 1099511627776) :
    Calls Tryz.prog 70 #[v] w fun e w' => ∃ v', e = .returned v' ∧ w'.ownsRow w.heap.size 3 1 v' n xs ∧ Below w.heap.size w w' := by
  have qn : ∀ (w : World) (a : Option Addr) (n c n' c' : Nat), (binOp .eql 22 (.slice a n c) (.slice none n' c')).run Tryz.prog w = .ok (.bool a.isNone) w := fun w a n c n' c' => Lib.run_eql_slice_nil w _ 3 a n c n' c' (by kernel_rfl)
  rcases own_forms h with ⟨rfl, rfl, rfl⟩ | ⟨g, cap, rfl, hb, hg⟩
  · clear h h1
    go_enter Tryz.func70, Tryz.ntmps70
    go_wp2
    go_ret
    exact ⟨_, rfl, World.ownsRow_nil _ _ _ _, Below.refl _ _⟩
  · have HC := Lib.hid (own_cells h)
    have HL := Lib.hid h.1
    have HN := Lib.hid h1
    clear h h1
    go_enter Tryz.func70, Tryz.ntmps70
    go_wp2_with (at_builtin; refine list_appends elt_ints _ _ rfl rfl rfl rfl (World.ownsRow_made w #[] 0 (Nat.le_refl _) (Nat.zero_le _) (by simp)) HL.out (fun j u hu => (cell_below (HC.out j u hu) (below_alloc' (Below.refl _ _) _))) HN.out (by omega) (by simp) ?_; intro v' w' hown hgrow; have HO := Lib.hid hown; have HB := Lib.hid ((below_alloc' (Below.refl _ w) _).grown hgrow (by simp) (fun k hk => Nat.le_of_eq (Option.some.inj hk))); clear hown hgrow)
    go_ret
    refine ⟨_, rfl, ?_, HB.out⟩
    have := HO.out
    rwa [List.nil_append, Nat.zero_add] at this

set_option maxRecDepth 100000 in
theorem clone_strs (w : World) (v : Value) (n base : Nat) (xs : List Value) (h : w.ownsRow base 9 1 v n xs) (h1 : ∀ u ∈ xs, u.oneCell' = true) (hn : n ≤ 1099511627776) :
    Calls Tryz.prog 109 #[v] w fun e w' => ∃ v', e = .returned v' ∧ w'.ownsRow w.heap.size 9 1 v' n xs ∧ Below w.heap.size w w' := by
  have qn : ∀ (w : World) (a : Option Addr) (n c n' c' : Nat), (binOp .eql 39 (.slice a n c) (.slice none n' c')).run Tryz.prog w = .ok (.bool a.isNone) w := fun w a n c n' c' => Lib.run_eql_slice_nil w _ 9 a n c n' c' (by kernel_rfl)
  rcases own_forms h with ⟨rfl, rfl, rfl⟩ | ⟨g, cap, rfl, hb, hg⟩
  · clear h h1
    go_enter Tryz.func109, Tryz.ntmps109
    go_wp2
    go_ret
    exact ⟨_, rfl, World.ownsRow_nil _ _ _ _, Below.refl _ _⟩
  · have HC := Lib.hid (own_cells h)
    have HL := Lib.hid h.1
    have HN := Lib.hid h1
    clear h h1
    go_enter Tryz.func109, Tryz.ntmps109
    go_wp2_with (at_builtin; refine list_appends elt_strs _ _ rfl rfl rfl rfl (World.ownsRow_made w #[] 0 (Nat.le_refl _) (Nat.zero_le _) (by simp)) HL.out (fun j u hu => (cell_below (HC.out j u hu) (below_alloc' (Below.refl _ _) _))) HN.out (by omega) (by simp) ?_; intro v' w' hown hgrow; have HO := Lib.hid hown; have HB := Lib.hid ((below_alloc' (Below.refl _ w) _).grown hgrow (by simp) (fun k hk => Nat.le_of_eq (Option.some.inj hk))); clear hown hgrow)
    go_ret
    refine ⟨_, rfl, ?_, HB.out⟩
    have := HO.out
    rwa [List.nil_append, Nat.zero_add] at this

end Go.Proofs.YtofofjfmhaggmaaGreatDoor

/-! The program's reader of words: two numbers, rows of names, a node. -/
set_option linter.unusedVariables false
set_option linter.unusedSimpArgs false
namespace Go.Proofs.YtofofjfmhaggmaaGreatDoor
open Go.RowKit

theorem Gb.alloc {g : Nat} {w w' : World} (h : Gb g w w') (o : Obj) : Gb g w (w'.alloc o) := h.trans (Gb.of_below (below_alloc' (Below.refl _ _) o))
theorem RdAt.alloc {w : World} {g : Nat} {l : List UInt8} {no : Bool} (h : RdAt w g l no) (o : Obj) : RdAt (w.alloc o) g l no := block_below h (below_alloc' (Below.refl _ _) o)
theorem Gb.grown {g : Nat} {w a b : World} {row : Option Nat} (h : Gb g w a) (k : a.grownBy b row) (hr : ∀ j, row = some j → w.heap.size ≤ j) : Gb g w b :=
  ⟨k.os.trans h.os, k.tape.trans h.tape, k.output.trans h.output, Nat.le_trans h.size k.size, fun i hi hn => (k.block i (Nat.lt_of_lt_of_le hi h.size) (fun e => by have := hr i (by first | exact e | exact e.symm); omega)).trans (h.block i hi hn)⟩
/-- How much is left to a reader. -/
def leftAt (w : World) (g : Nat) : Nat := match w.cell? ⟨g, 0, none⟩ with | some (.string s) => s.size | _ => 0
theorem RdAt.left {w : World} {g : Nat} {l : List UInt8} {no : Bool} (h : RdAt w g l no) : leftAt w g = l.length := by
  unfold leftAt
  rw [cell_of_block h 0 _ rfl]
  exact str_size l
def strV (l : List UInt8) : Value := .string (str l)
end Go.Proofs.YtofofjfmhaggmaaGreatDoor
/-! The program's reader of words: a node. -/
set_option linter.unusedVariables false
set_option linter.unusedSimpArgs false
namespace Go.Proofs.YtofofjfmhaggmaaGreatDoor
open Go.RowKit

/-- A node by value. -/
def NodeAt (base : Nat) (w : World) (v : Value) (n : NodeL) : Prop :=
  ∃ u x, v = .agg #[.string (str n.name), .int .i64 n.cpu, .int .i64 n.mem, u, x, .bool n.closed] ∧ Strs base w u (n.marks.map str) ∧ Strs base w x (n.taints.map str)
theorem NodeAt.below {base : Nat} {w w' : World} {v : Value} {n : NodeL} (h : NodeAt base w v n) (k : Below w.heap.size w w') : NodeAt base w' v n := by
  obtain ⟨u, x, e, h1, h2⟩ := h
  exact ⟨u, x, e, own_below h1 k, own_below h2 k⟩
theorem own_apart {w : World} {base n size b : Nat} {e T : TypeId} {v : Value} {xs : List Value} {cs : Array Value} {fz : Nat × Nat} (h : w.ownsRow base e size v n xs) (hb : w.heap[b]? = some (.cells cs T fz)) (hT : T ≠ e) : v.ownBlock = none ∨ v.ownBlock ≠ some b := by
  rcases h.2 with ⟨rfl, _⟩ | ⟨g, cap, cur, rfl, _, hg, _⟩
  · exact .inl rfl
  · refine .inr fun e1 => ?_
    simp [Value.ownBlock] at e1
    subst e1
    rw [hg] at hb
    injection hb with hb
    injection hb with _ h2 _
    exact hT h2.symm
theorem own_set' {w : World} {base n size b j : Nat} {e T : TypeId} {v : Value} {xs : List Value} {cs : Array Value} {fz : Nat × Nat} (h : w.ownsRow base e size v n xs) (hb : w.heap[b]? = some (.cells cs T fz)) (hT : T ≠ e) (u : Value) : (w.setCell ⟨b, j, none⟩ u).ownsRow base e size v n xs :=
  own_setOther h u (own_apart h hb hT)
theorem own_slice {w : World} {base n size : Nat} {e : TypeId} {v : Value} {xs : List Value} (h : w.ownsRow base e size v n xs) : ∃ a l c, v = .slice a l c := by
  rcases own_forms h with ⟨rfl, _⟩ | ⟨g, cap, rfl, _⟩ <;> exact ⟨_, _, _, rfl⟩
theorem own_slicen {w : World} {base n size : Nat} {e : TypeId} {v : Value} {xs : List Value} (h : w.ownsRow base e size v n xs) : ∃ a c, v = .slice a n c := by
  rcases own_forms h with ⟨rfl, rfl, _⟩ | ⟨g, cap, rfl, _⟩ <;> exact ⟨_, _, rfl⟩
theorem setAt {w : World} {b j : Nat} {T : TypeId} {cs ds : Array Value} {v : Value} (h : w.heap[b]? = some (.cells cs T (0, 0))) (hd : cs.setIfInBounds j v = ds) : (w.setCell ⟨b, j, none⟩ v).heap[b]? = some (.cells ds T (0, 0)) := by
  rw [heap_setCell_same w b j cs T v h, hd]
end Go.Proofs.YtofofjfmhaggmaaGreatDoor
