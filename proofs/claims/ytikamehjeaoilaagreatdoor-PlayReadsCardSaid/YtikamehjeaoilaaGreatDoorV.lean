/- Pods and messages in plain terms, and what it means that memory holds them; the three slices.Clone that messages use. -/
import Derived.Test.YtikamehjeaoilaaGreatDoorProg
import Derived.Test.YtikamehjeaoilaaGreatDoorW
import Derived.Lib.SliceRun
set_option linter.unusedVariables false
set_option linter.unusedSimpArgs false
namespace Go.Proofs.YtikamehjeaoilaaGreatDoor
open Go.RowKit

structure PodM where
  name : ByteArray
  shard : Int
  cpu : Int
  mem : Int
  picks : List ByteArray
  bears : List ByteArray
  alone : Bool

structure MsgM where
  kind : Int
  src : Int
  dst : Int
  gang : Int
  pods : List PodM
  peers : List Int
  yes : Bool

/-- The cells of n elements, one behind the other. -/
def flat (n : Nat) (c : Nat → List Value) : List Value := (List.range n).flatMap c
theorem flat_succ (n : Nat) (c : Nat → List Value) : flat (n + 1) c = flat n c ++ c n := by simp [flat, List.range_succ]
theorem flat_len {n s : Nat} {c : Nat → List Value} (h : ∀ i, i < n → (c i).length = s) : (flat n c).length = n * s := by
  induction n with
  | zero => simp [flat]
  | succ n ih => rw [flat_succ, List.length_append, ih (fun i hi => h i (by omega)), h n (by omega), Nat.succ_mul]
theorem flat_get {n s : Nat} {c : Nat → List Value} (h : ∀ i, i < n → (c i).length = s) {k j : Nat} (hk : k < n) (hj : j < s) : (flat n c)[k * s + j]? = (c k)[j]? := by
  induction n with
  | zero => omega
  | succ n ih =>
    rw [flat_succ]
    have hl := flat_len (n := n) (s := s) (c := c) (fun i hi => h i (by omega))
    by_cases hkn : k < n
    · have hlt : k * s + j < n * s := by
        have : (k + 1) * s ≤ n * s := Nat.mul_le_mul_right s hkn
        rw [Nat.succ_mul] at this
        omega
      rw [List.getElem?_append_left (by omega), ih (fun i hi => h i (by omega)) hkn]
    · obtain rfl : k = n := by omega
      rw [List.getElem?_append_right (by omega), hl, Nat.add_sub_cancel_left]
theorem flat_ext {n : Nat} {c d : Nat → List Value} (h : ∀ i, i < n → c i = d i) : flat n c = flat n d := by
  induction n with
  | zero => rfl
  | succ n ih => rw [flat_succ, flat_succ, ih (fun i hi => h i (by omega)), h n (by omega)]
theorem flat_mem {n : Nat} {c : Nat → List Value} {u : Value} (h : u ∈ flat n c) : ∃ i, i < n ∧ u ∈ c i := by
  simp only [flat, List.mem_flatMap, List.mem_range] at h
  exact h

def Strs (base : Nat) (w : World) (v : Value) (l : List ByteArray) : Prop := w.ownsRow base 9 1 v l.length (l.map Value.string)
def Ints (base : Nat) (w : World) (v : Value) (l : List Int) : Prop := w.ownsRow base 3 1 v l.length (l.map (Value.int .i64))
def PodAt (base : Nat) (w : World) (cs : List Value) (p : PodM) : Prop :=
  ∃ u v, cs = [.string p.name, .int .i64 p.shard, .int .i64 p.cpu, .int .i64 p.mem, u, v, .bool p.alone] ∧ Strs base w u p.picks ∧ Strs base w v p.bears
def noPod : PodM := ⟨ByteArray.empty, 0, 0, 0, [], [], false⟩
def PodsAt (base : Nat) (w : World) (v : Value) (l : List PodM) : Prop :=
  ∃ c, w.ownsRow base 54 7 v l.length (flat l.length c) ∧ ∀ i, i < l.length → PodAt base w (c i) (l.getD i noPod)
def MsgAt (base : Nat) (w : World) (v : Value) (m : MsgM) : Prop :=
  ∃ u x, v = .agg #[.int .i64 m.kind, .int .i64 m.src, .int .i64 m.dst, .int .i64 m.gang, u, x, .bool m.yes] ∧ PodsAt base w u m.pods ∧ Ints base w x m.peers
/-- A message that is not too much. -/
def MsgM.few (m : MsgM) : Prop := m.pods.length ≤ 1073741824 ∧ m.peers.length ≤ 1073741824 ∧ ∀ i, i < m.pods.length → (m.pods.getD i noPod).picks.length ≤ 1073741824 ∧ (m.pods.getD i noPod).bears.length ≤ 1073741824

theorem PodAt.len {base : Nat} {w : World} {cs : List Value} {p : PodM} (h : PodAt base w cs p) : cs.length = 7 := by
  obtain ⟨u, v, rfl, _⟩ := h
  rfl
theorem own_base {w : World} {b b' n : Nat} {e : TypeId} {size : Nat} {v : Value} {xs : List Value} (h : w.ownsRow b e size v n xs) (hb : b' ≤ b) : w.ownsRow b' e size v n xs := by
  obtain ⟨h1, h2⟩ := h
  refine ⟨h1, ?_⟩
  rcases h2 with h2 | ⟨g, cap, cur, h3, h4, h5⟩
  · exact .inl h2
  · exact .inr ⟨g, cap, cur, h3, by omega, h5⟩
/-- What only reads blocks that stand as they did. -/
theorem own_same {w w1 : World} {base n : Nat} {e : TypeId} {size : Nat} {v : Value} {xs : List Value} (h : w.ownsRow base e size v n xs) (hb : ∀ (g : Nat) (cs : Array Value), w.heap[g]? = some (.cells cs e (0, 0)) → v.ownBlock = some g → w1.heap[g]? = w.heap[g]?) : w1.ownsRow base e size v n xs := by
  obtain ⟨h1, h2⟩ := h
  refine ⟨h1, ?_⟩
  rcases h2 with h2 | ⟨g, cap, cur, rfl, h4, h5, h6⟩
  · exact .inl h2
  · exact .inr ⟨g, cap, cur, rfl, h4, (hb g cur h5 rfl).trans h5, h6⟩

/-- Blocks of the given element types are as they were (below what was there). -/
def Still (T : TypeId → Prop) (w w' : World) : Prop := ∀ (g : Nat) (cs : Array Value) (e : TypeId), T e → w.heap[g]? = some (.cells cs e (0, 0)) → w'.heap[g]? = some (.cells cs e (0, 0))
theorem Still.trans {T : TypeId → Prop} {a b c : World} (h : Still T a b) (k : Still T b c) : Still T a c := fun g cs e he hg => k g cs e he (h g cs e he hg)
theorem Still.of_below {T : TypeId → Prop} {w w' : World} (h : Below w.heap.size w w') : Still T w w' := fun g cs e _ hg => block_below hg h
theorem own_still {T : TypeId → Prop} {w w1 : World} {base n : Nat} {e : TypeId} {size : Nat} {v : Value} {xs : List Value} (h : w.ownsRow base e size v n xs) (hs : Still T w w1) (he : T e) : w1.ownsRow base e size v n xs :=
  own_same h fun g cs hg _ => (hs g cs e he hg).trans hg.symm

/-- The types of a message's own blocks. -/
def Parts (e : TypeId) : Prop := e = 9 ∨ e = 3 ∨ e = 54
theorem Strs.still {base : Nat} {w w' : World} {v : Value} {l : List ByteArray} (h : Strs base w v l) (k : Still Parts w w') : Strs base w' v l := own_still h k (.inl rfl)
theorem Ints.still {base : Nat} {w w' : World} {v : Value} {l : List Int} (h : Ints base w v l) (k : Still Parts w w') : Ints base w' v l := own_still h k (.inr (.inl rfl))
theorem PodAt.still {base : Nat} {w w' : World} {cs : List Value} {p : PodM} (h : PodAt base w cs p) (k : Still Parts w w') : PodAt base w' cs p := by
  obtain ⟨u, v, e, h1, h2⟩ := h
  exact ⟨u, v, e, h1.still k, h2.still k⟩
theorem PodsAt.still {base : Nat} {w w' : World} {v : Value} {l : List PodM} (h : PodsAt base w v l) (k : Still Parts w w') : PodsAt base w' v l := by
  obtain ⟨c, h1, h2⟩ := h
  exact ⟨c, own_still h1 k (.inr (.inr rfl)), fun i hi => (h2 i hi).still k⟩
theorem MsgAt.still {base : Nat} {w w' : World} {v : Value} {m : MsgM} (h : MsgAt base w v m) (k : Still Parts w w') : MsgAt base w' v m := by
  obtain ⟨u, x, e, h1, h2⟩ := h
  exact ⟨u, x, e, h1.still k, h2.still k⟩
theorem Strs.base {b b' : Nat} {w : World} {v : Value} {l : List ByteArray} (h : Strs b w v l) (hb : b' ≤ b) : Strs b' w v l := own_base h hb
theorem PodAt.base {b b' : Nat} {w : World} {cs : List Value} {p : PodM} (h : PodAt b w cs p) (hb : b' ≤ b) : PodAt b' w cs p := by
  obtain ⟨u, v, e, h1, h2⟩ := h
  exact ⟨u, v, e, own_base h1 hb, own_base h2 hb⟩
theorem PodsAt.base {b b' : Nat} {w : World} {v : Value} {l : List PodM} (h : PodsAt b w v l) (hb : b' ≤ b) : PodsAt b' w v l := by
  obtain ⟨c, h1, h2⟩ := h
  exact ⟨c, own_base h1 hb, fun i hi => (h2 i hi).base hb⟩
theorem MsgAt.base {b b' : Nat} {w : World} {v : Value} {m : MsgM} (h : MsgAt b w v m) (hb : b' ≤ b) : MsgAt b' w v m := by
  obtain ⟨u, x, e, h1, h2⟩ := h
  exact ⟨u, x, e, h1.base hb, own_base h2 hb⟩

theorem one_strs (l : List ByteArray) : ∀ u ∈ l.map Value.string, u.oneCell' = true := by simp [Value.oneCell']
theorem own_cells {w : World} {base n g cap size : Nat} {e : TypeId} {xs : List Value} (h : w.ownsRow base e size (.slice (some ⟨g, 0, none⟩) n cap) n xs) : ∀ j u, xs[j]? = some u → w.cell? ((⟨g, 0, none⟩ : Addr).add j) = some u := by
  intro j u hu
  have hadd : (⟨g, 0, none⟩ : Addr).add j = ⟨g, j, none⟩ := by unfold Addr.add; split <;> simp_all
  have hj : j < n * size := by
    have := (List.getElem?_eq_some_iff.1 hu).1
    rw [h.1] at this
    exact this
  rw [hadd, h.cellAt j hj, hu]
theorem own_forms {w : World} {base n size : Nat} {e : TypeId} {v : Value} {xs : List Value} (h : w.ownsRow base e size v n xs) : (v = .slice none 0 0 ∧ n = 0 ∧ xs = []) ∨ ∃ g cap, v = .slice (some ⟨g, 0, none⟩) n cap ∧ base ≤ g ∧ g < w.heap.size := by
  rcases h.2 with ⟨h1, rfl⟩ | ⟨g, cap, cur, h3, h4, h5, _⟩
  · exact .inl ⟨h1, rfl, by have := h.1; simpa using this⟩
  · exact .inr ⟨g, cap, h3, h4, (Array.getElem?_eq_some_iff.1 h5).1⟩

/-- An element type of s cells. -/
def Elt (P : Program) (t e : TypeId) (s bytes : Nat) : Prop := P.underlying t = some (.slice e) ∧ 0 < s ∧ bytes ≤ 128 ∧ ∃ i z, P.info? e = some i ∧ i.zero = some z ∧ i.size = s ∧ i.bytes = bytes ∧ z.cells.size = s
theorem elt_of {P : Program} {t e : TypeId} {s bytes : Nat} (h : P.underlying t = some (.slice e)) (h1 : 0 < s) (h2 : bytes ≤ 128)
    (h3 : (P.info? e).map (fun i => (i.zero.map (fun z => z.cells.size), i.size, i.bytes)) = some (some s, s, bytes)) : Elt P t e s bytes := by
  refine ⟨h, h1, h2, ?_⟩
  match hi : P.info? e with
  | none => rw [hi] at h3; cases h3
  | some i =>
    rw [hi] at h3
    simp only [Option.map_some, Option.some.injEq, Prod.mk.injEq] at h3
    obtain ⟨h4, h5, h6⟩ := h3
    match hz : i.zero with
    | none => rw [hz] at h4; cases h4
    | some z =>
      rw [hz] at h4
      exact ⟨i, z, rfl, hz, h5, h6, by simpa using h4⟩
theorem list_appends {P : Program} {w : World} {ops : Array Oper} {rest : List Oper} {o : Oper} {a : Act} {Q : Exit → Act → World → Prop} {t e : TypeId} {size bytes : Nat} (hE : Elt P t e size bytes) (s x : Operand)
    (hgd : o.guard = none) (ho : o.op = .call { callee := .builtin .append, args := #[s, x], argTypes := #[t, t] }) {v : Value} {n m base g cap : Nat} {xs news : List Value} (hs : a.eval s = v) (hx : a.eval x = .slice (some ⟨g, 0, none⟩) m cap)
    (hown : w.ownsRow base e size v n xs) (hl : news.length = m * size) (hnews : ∀ j u, news[j]? = some u → w.cell? ((⟨g, 0, none⟩ : Addr).add j) = some u) (h1 : ∀ u ∈ news, u.oneCell' = true) (hn : n + m ≤ 1099511627776) (hbase : base ≤ w.heap.size)
    (h : ∀ v' w', w'.ownsRow base e size v' (n + m) (xs ++ news) → w.grownBy w' v.ownBlock → wpList P ops Q rest (a.put o.dst v') w') :
    wpList P ops Q (o :: rest) a w := by
  obtain ⟨q1, q2, q3, i, z, q4, q5, q6, q7, q8⟩ := hE
  have hbb : (n + m) * bytes ≤ 1099511627776 * 128 := Nat.mul_le_mul hn q3
  exact wpList_append_own w hgd s x t ho base e i z size bytes q1 q4 q5 q6 q7 q8 q2 v n xs hs hown ⟨g, 0, none⟩ m cap news hx hl hnews h1 (by simp only [maxLen]; omega) (by omega) hbase fun v' w' a b _ => h v' w' a b
theorem elt_strs : Elt Tryz.prog 29 9 1 16 := elt_of Tryz.underlying29 (by decide) (by decide) (by kernel_rfl)
theorem elt_pods : Elt Tryz.prog 24 54 7 96 := elt_of Tryz.underlying24 (by decide) (by decide) (by kernel_rfl)

set_option maxRecDepth 100000 in
theorem clone_strs (w : World) (v : Value) (n base : Nat) (xs : List Value) (h : w.ownsRow base 9 1 v n xs) (h1 : ∀ u ∈ xs, u.oneCell' = true) (hn : n ≤ 1099511627776) :
    Calls Tryz.prog 31 #[v] w fun e w' => ∃ v', e = .returned v' ∧ w'.ownsRow w.heap.size 9 1 v' n xs ∧ Below w.heap.size w w' := by
  have qn : ∀ (w : World) (a : Option Addr) (n c n' c' : Nat), (binOp .eql 29 (.slice a n c) (.slice none n' c')).run Tryz.prog w = .ok (.bool a.isNone) w := fun w a n c n' c' => Lib.run_eql_slice_nil w _ 9 a n c n' c' (by kernel_rfl)
  rcases own_forms h with ⟨rfl, rfl, rfl⟩ | ⟨g, cap, rfl, hb, hg⟩
  · clear h h1
    go_enter Tryz.func31, Tryz.ntmps31
    go_wp2
    go_ret
    exact ⟨_, rfl, World.ownsRow_nil _ _ _ _, Below.refl _ _⟩
  · have HC := Lib.hid (own_cells h)
    have HL := Lib.hid h.1
    have HN := Lib.hid h1
    clear h h1
    go_enter Tryz.func31, Tryz.ntmps31
    go_wp2_with (at_builtin; refine list_appends elt_strs _ _ rfl rfl rfl rfl (World.ownsRow_made w #[] 0 (Nat.le_refl _) (Nat.zero_le _) (by simp)) HL.out (fun j u hu => (cell_below (HC.out j u hu) (below_alloc' (Below.refl _ _) _))) HN.out (by omega) (by simp) ?_; intro v' w' hown hgrow; have HO := Lib.hid hown; have HB := Lib.hid ((below_alloc' (Below.refl _ w) _).grown hgrow (by simp) (fun k hk => Nat.le_of_eq (Option.some.inj hk))); clear hown hgrow)
    go_ret
    refine ⟨_, rfl, ?_, HB.out⟩
    have := HO.out
    rwa [List.nil_append, Nat.zero_add] at this

set_option maxRecDepth 100000 in
theorem clone_pods (w : World) (v : Value) (n base : Nat) (xs : List Value) (h : w.ownsRow base 54 7 v n xs) (h1 : ∀ u ∈ xs, u.oneCell' = true) (hn : n ≤ 1099511627776) :
    Calls Tryz.prog 67 #[v] w fun e w' => ∃ v', e = .returned v' ∧ w'.ownsRow w.heap.size 54 7 v' n xs ∧ Below w.heap.size w w' := by
  have qn : ∀ (w : World) (a : Option Addr) (n c n' c' : Nat), (binOp .eql 24 (.slice a n c) (.slice none n' c')).run Tryz.prog w = .ok (.bool a.isNone) w := fun w a n c n' c' => Lib.run_eql_slice_nil w _ 54 a n c n' c' (by kernel_rfl)
  rcases own_forms h with ⟨rfl, rfl, rfl⟩ | ⟨g, cap, rfl, hb, hg⟩
  · clear h h1
    go_enter Tryz.func67, Tryz.ntmps67
    go_wp2
    go_ret
    exact ⟨_, rfl, World.ownsRow_nil _ _ _ _, Below.refl _ _⟩
  · have HC := Lib.hid (own_cells h)
    have HL := Lib.hid h.1
    have HN := Lib.hid h1
    clear h h1
    go_enter Tryz.func67, Tryz.ntmps67
    go_wp2_with (at_builtin; refine list_appends elt_pods _ _ rfl rfl rfl rfl (World.ownsRow_made w #[] 0 (Nat.le_refl _) (Nat.zero_le _) (by simp)) HL.out (fun j u hu => (cell_below (HC.out j u hu) (below_alloc' (Below.refl _ _) _))) HN.out (by omega) (by simp) ?_; intro v' w' hown hgrow; have HO := Lib.hid hown; have HB := Lib.hid ((below_alloc' (Below.refl _ w) _).grown hgrow (by simp) (fun k hk => Nat.le_of_eq (Option.some.inj hk))); clear hown hgrow)
    go_ret
    refine ⟨_, rfl, ?_, HB.out⟩
    have := HO.out
    rwa [List.nil_append, Nat.zero_add] at this
end Go.Proofs.YtikamehjeaoilaaGreatDoor
