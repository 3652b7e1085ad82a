/- The taker: a line's words, taken one by one. -/
import Derived.Test.YtikamehjeaoilaaGreatDoorPo
import Derived.Test.YtikamehjeaoilaaGreatDoorSe
import Derived.MapKept
set_option linter.unusedVariables false
set_option linter.unusedSimpArgs false
namespace Go.Proofs.YtikamehjeaoilaaGreatDoor
open Go.RowKit

/-- A taker at block t: of the words ls (in block g) the first j were taken. -/
def Tak (w : World) (t g : Nat) (ls : List (List UInt8)) (j : Nat) (no : Bool) : Prop :=
  (∃ c a, w.heap[t]? = some (.cells #[.slice (some a) (ls.length - j) c, .bool no] 59 (0, 0)) ∧ ls.length - j ≤ c ∧ (j < ls.length → a = ⟨g, j, none⟩)) ∧ Blk w g ls ∧ j ≤ ls.length
theorem Tak.ne {w : World} {t g j : Nat} {ls : List (List UInt8)} {no : Bool} (h : Tak w t g ls j no) : g ≠ t := fun e => by
  obtain ⟨⟨c, a, h1, _⟩, h2, _⟩ := h
  unfold Blk at h2
  rw [e, h1] at h2
  injection h2 with h2
  injection h2 with _ h2
  exact absurd h2 (by decide)
theorem Tak.below {w w' : World} {t g j : Nat} {ls : List (List UInt8)} {no : Bool} (h : Tak w t g ls j no) (hb : Below w.heap.size w w') : Tak w' t g ls j no := by
  obtain ⟨⟨c, a, h1, h2⟩, h3, h4⟩ := h
  exact ⟨⟨c, a, block_below h1 hb, h2⟩, h3.below hb, h4⟩
theorem Tak.set0 {w : World} {t g j k : Nat} {ls : List (List UInt8)} {no : Bool} (h : Tak w t g ls j no) (hk : k ≤ ls.length) {c m : Nat} {a : Addr} (hm : m = ls.length - k) (hc : m ≤ c) (ha : k < ls.length → a = ⟨g, k, none⟩) : Tak (w.setCell ⟨t, 0, none⟩ (.slice (some a) m c)) t g ls k no := by
  have hne := h.ne
  subst hm
  obtain ⟨⟨c0, a0, h1, _⟩, h2, _⟩ := h
  exact ⟨⟨c, a, heap_setCell_same w t 0 _ _ _ h1, hc, ha⟩, (Below.heap_setCell _ _ _ _ hne).trans h2, hk⟩
theorem Tak.set1 {w : World} {t g j : Nat} {ls : List (List UInt8)} {no : Bool} (h : Tak w t g ls j no) (b : Bool) : Tak (w.setCell ⟨t, 1, none⟩ (.bool b)) t g ls j b := by
  have hne := h.ne
  obtain ⟨⟨c0, a0, h1, hc⟩, h2, h3⟩ := h
  exact ⟨⟨c0, a0, heap_setCell_same w t 1 _ _ _ h1, hc⟩, (Below.heap_setCell _ _ _ _ hne).trans h2, h3⟩
theorem Tak.no {w : World} {t g j : Nat} {ls : List (List UInt8)} {no : Bool} (h : Tak w t g ls j no) : w.cell? ⟨t, 1, none⟩ = some (.bool no) ∧ w.frozen? ⟨t, 1, none⟩ = false := by
  obtain ⟨⟨c0, a0, h1, hc⟩, h2, h3⟩ := h
  exact ⟨cell_of_block h1 1 _ rfl, free_of_block h1 1⟩

set_option maxHeartbeats 1000000 in
set_option maxRecDepth 100000 in
theorem take_some (w : World) (t g j : Nat) (ls : List (List UInt8)) (no : Bool) (h : Tak w t g ls j no) (hj : j < ls.length) (hf : ls.length ≤ 4294967281) :
    Calls Tryz.prog 21 #[.pointer (some ⟨t, 0, none⟩)] w fun e w' => e = .returned (.string (str ls[j])) ∧ Tak w' t g ls (j + 1) no ∧ Gb t w w' := by
  have H := Lib.hid h
  obtain ⟨⟨c, a, h1, hc, ha⟩, h2, _⟩ := h
  obtain rfl := ha hj
  have e0 := cell_of_block h1 0 _ rfl
  have e1 := h2.cell hj
  have fr := free_of_block h1 0
  obtain ⟨m, hm⟩ : ∃ m, ls.length - j = m + 1 := ⟨ls.length - j - 1, by omega⟩
  rw [hm] at e0 hc
  have hm2 : ls.length - (j + 1) = m := by omega
  have hne : ¬ ((m + 1 : Nat) : Int) = 0 := by omega
  have hne2 : (((m + 1 : Nat) : Int) == 0) = false := beq_eq_false_iff_ne.2 hne
  have hm3 : m + 1 ≤ 4294967281 := by omega
  have hc1 : (1 : Int) ≤ ((m + 1 : Nat) : Int) := by omega
  have hc2 : ((m + 1 : Nat) : Int) ≤ (c : Int) := by omega
  clear h1 h2
  go_enter Tryz.func21, Tryz.ntmps21
  go_wp2
  all_goals
    go_ret
    refine ⟨rfl, H.out.set0 hj hm2.symm (by omega) fun hk => ?_, Gb.set _ _ _ _⟩
    first | rfl | (exfalso; omega)
set_option maxHeartbeats 1000000 in
set_option maxRecDepth 100000 in
theorem take_none (w : World) (t g : Nat) (ls : List (List UInt8)) (no : Bool) (h : Tak w t g ls ls.length no) :
    Calls Tryz.prog 21 #[.pointer (some ⟨t, 0, none⟩)] w fun e w' => e = .returned (.string (str [])) ∧ Tak w' t g ls ls.length true ∧ Gb t w w' := by
  have H := Lib.hid h
  obtain ⟨⟨c, a, h1, hc, ha⟩, h2, _⟩ := h
  have e0 := cell_of_block h1 0 _ rfl
  have e1 := cell_of_block h1 1 _ rfl
  have fr := free_of_block h1 1
  rw [Nat.sub_self] at e0
  clear h1 h2 ha hc
  go_enter Tryz.func21, Tryz.ntmps21
  go_wp2
  go_ret
  exact ⟨rfl, H.out.set1 true, Gb.set _ _ _ _⟩
/-- A number, or none, where a word is there. -/
theorem tnum_some (w : World) (t g j : Nat) (ls : List (List UInt8)) (no : Bool) (h : Tak w t g ls j no) (hj : j < ls.length) (hf : few ls) :
    Calls Tryz.prog 42 #[.pointer (some ⟨t, 0, none⟩)] w fun e w' => e = .returned (.int .i64 (numV ls[j])) ∧ Tak w' t g ls (j + 1) (no || !numP 999999 ls[j]) ∧ Gb t w w' := by
  have H := Lib.hid h
  clear h
  have hl : ls[j].length ≤ 4294967280 := by have := hf.2 ls[j] (List.getElem_mem hj); omega
  go_enter Tryz.func42, Tryz.ntmps42
  go_wp2_with fail
  refine (take_some w t g j ls no H.out hj (by have := hf.1; omega)).mono ?_
  rintro e w1 ⟨rfl, h1, g1⟩
  go_wp2_with fail
  refine (pnumber_any ls[j] 999999 w1 hl (by decide)).mono ?_
  rintro e w2 ⟨rfl, hb2⟩
  have h2 := h1.below hb2
  have G2 := Lib.hid (g1.trans (Gb.of_below hb2))
  obtain ⟨c1, f1⟩ := h2.no
  have H2 := Lib.hid h2
  clear h1 g1 hb2 h2
  cases no <;> cases hb : numP 999999 ls[j]
  all_goals
    go_wp2
    go_ret
    exact ⟨rfl, by rw [hb]; exact H2.out.set1 _, G2.out.trans (Gb.set _ _ _ _)⟩
end Go.Proofs.YtikamehjeaoilaaGreatDoor
/-! A word's kind; what stands behind it. -/
set_option linter.unusedVariables false
set_option linter.unusedSimpArgs false
namespace Go.Proofs.YtikamehjeaoilaaGreatDoor
open Go.RowKit

theorem verbs_fields : Lib.fields [115, 117, 98, 109, 105, 116, 32, 99, 97, 110, 99, 101, 108, 32, 114, 101, 108, 101, 97, 115, 101, 32, 112, 117, 116, 32, 103, 111, 110, 101, 32, 100, 101, 108, 105, 118, 101, 114, 32, 108, 111, 115, 101, 32, 99, 111, 112, 121, 32, 116, 105, 99, 107, 32, 99, 114, 97, 115, 104, 32, 115, 116, 97, 114, 116] = verbs := by decide +kernel
theorem kindOf_found (x : List UInt8) : foundAt verbs x + 1 = (kindOf x : Int) ∧ -1 ≤ foundAt verbs x ∧ foundAt verbs x ≤ 10 := by
  unfold foundAt kindOf
  cases h : verbs.findIdx? (· = x) with
  | none => exact ⟨rfl, by decide, by decide⟩
  | some i =>
    have : i < 11 := by have := (List.findIdx?_eq_some_iff_getElem.1 h).1; exact this
    refine ⟨by simp, ?_, ?_⟩ <;> (show _ ≤ _) <;> simp <;> omega
set_option maxHeartbeats 1000000 in
theorem pkind_any (l : List UInt8) (w : World) (ht : Tabs w) : Calls Tryz.prog 20 #[.string (str l)] w fun e w' => e = .returned (.int .i64 (kindOf l)) ∧ Below w.heap.size w w' := by
  have HT := Lib.hid ht
  clear ht
  obtain ⟨x, hx⟩ : ∃ x, str l = x := ⟨_, rfl⟩
  have HX := Lib.hid hx
  rw [hx]
  clear hx
  go_enter Tryz.func20, Tryz.ntmps20
  go_wp2_with fail
  refine (fields_const _ verbs verbs_fields (by decide +kernel) (by decide) _ HT.out).mono ?_
  rintro e w1 ⟨rfl, h1, hb1⟩
  have H1 := Lib.hid h1
  have HB1 := Lib.hid hb1
  clear h1 hb1
  go_wp2_with fail
  rw [← HX.out]
  refine (index_any _ _ _ l _ H1.out (by decide)).mono ?_
  rintro e w2 ⟨rfl, rfl⟩
  have hk := kindOf_found l
  have hw : IntKind.i64.wrap (foundAt verbs l + 1) = foundAt verbs l + 1 := IntWalk.i64_in _ (by omega)
  have HK := Lib.hid hk.1
  clear hk
  go_wp2
  go_ret
  exact ⟨by rw [← HK.out]; rfl, HB1.out⟩
/-- What stands behind a kind: one number, or more. -/
def shapeOf (k : Nat) : ByteArray := if k = 1 then ⟨#[97, 112]⟩ else if k = 4 then ⟨#[97, 110]⟩ else if k = 5 then ⟨#[97, 109]⟩ else if k = 10 then ⟨#[97, 98]⟩ else ⟨#[97]⟩
theorem shape_any (k : Nat) (w : World) : Calls Tryz.prog 22 #[.int .i64 k] w fun e w' => e = .returned (.string (shapeOf k)) ∧ w' = w := by
  by_cases h1 : k = 1
  · subst h1
    go_enter Tryz.func22, Tryz.ntmps22
    go_wp2
    go_ret
    exact ⟨rfl, rfl⟩
  · by_cases h4 : k = 4
    · subst h4
      go_enter Tryz.func22, Tryz.ntmps22
      go_wp2
      go_ret
      exact ⟨rfl, rfl⟩
    · by_cases h5 : k = 5
      · subst h5
        go_enter Tryz.func22, Tryz.ntmps22
        go_wp2
        go_ret
        exact ⟨rfl, rfl⟩
      · by_cases h10 : k = 10
        · subst h10
          go_enter Tryz.func22, Tryz.ntmps22
          go_wp2
          go_ret
          exact ⟨rfl, rfl⟩
        · have e : shapeOf k = ⟨#[97]⟩ := by simp [shapeOf, h1, h4, h5, h10]
          rw [e]
          have b1 : ((k : Int) == 1) = false := beq_eq_false_iff_ne.2 (by omega)
          have b4 : ((k : Int) == 4) = false := beq_eq_false_iff_ne.2 (by omega)
          have b5 : ((k : Int) == 5) = false := beq_eq_false_iff_ne.2 (by omega)
          have b10 : ((k : Int) == 10) = false := beq_eq_false_iff_ne.2 (by omega)
          clear h1 h4 h5 h10 e
          go_enter Tryz.func22, Tryz.ntmps22
          go_wp2
          go_ret
          exact ⟨rfl, rfl⟩
end Go.Proofs.YtikamehjeaoilaaGreatDoor
/-! A map literal of two entries, laid in whatever order. -/
set_option linter.unusedVariables false
set_option linter.unusedSimpArgs false
namespace Go.Proofs.YtikamehjeaoilaaGreatDoor
open Go.RowKit

def ent (k : Int) (v : Value) (b : Nat) : MapEntry := { key := .int .i32 k, val := v, born := b }
/-- Block r is a map that was filled so far with 97 (if A) and 98 (if B), in whatever order. -/
def Ins (w : World) (r : Nat) (x y : Value) : Bool → Bool → Prop
  | false, false => w.heap[r]? = some (.map #[] 0)
  | true, false => w.heap[r]? = some (.map #[ent 97 x 0] 1)
  | false, true => w.heap[r]? = some (.map #[ent 98 y 0] 1)
  | true, true => w.heap[r]? = some (.map #[ent 97 x 0, ent 98 y 1] 2) ∨ w.heap[r]? = some (.map #[ent 98 y 0, ent 97 x 1] 2)
theorem run_ins {w : World} {r clock : Nat} {es : Array MapEntry} {k : Int} {v : Value} (hb : w.heap[r]? = some (.map es clock)) (hf : Instr.findNow (.int .i32) (.int .i32 k) es.toList 0 = some none) :
    (Instr.mapUpdate 82 (.map (some r)) (.int .i32 k) v).run Tryz.prog w = .ok () { w with heap := w.heap.setIfInBounds r (.map (es.push (ent k v clock)) (clock + 1)) } := by
  have hc : (Instr.checkKey false 10000 21 (.int .i32 k)).run Tryz.prog w = .ok () w := MapKept.run_checkKey (d := .int .i32) Tryz.underlying21 (by simp [MapKept.IsKey]) false 9999
  simp [Instr.mapUpdate, run_underlying Tryz.underlying82, MapKept.run_getObj_map hb, hc, MapKept.run_findKey Tryz.underlying21 hf, MapKept.run_setObj_map _ hb, Result.andThen, ent]
theorem run_look {w : World} {r clock i : Nat} {es : Array MapEntry} {k : Int} {v : Value} (hb : w.heap[r]? = some (.map es clock)) (hf : Instr.findNow (.int .i32) (.int .i32 k) es.toList 0 = some (some (i, v))) :
    (Instr.lookup 82 (.map (some r)) (.int .i32 k) false).run Tryz.prog w = .ok v w := by
  have hc : ∀ b, (Instr.checkKey b 10000 21 (.int .i32 k)).run Tryz.prog w = .ok () w := fun b => MapKept.run_checkKey (d := .int .i32) Tryz.underlying21 (by simp [MapKept.IsKey]) b 9999
  simp [Instr.lookup, run_underlying Tryz.underlying82, MapKept.run_getObj_map hb, hc, MapKept.run_findKey Tryz.underlying21 hf, Result.andThen]
theorem look_a {w : World} {r : Nat} {x y : Value} (h : Ins w r x y true true) : (Instr.lookup 82 (.map (some r)) (.int .i32 97) false).run Tryz.prog w = .ok x w := by
  rcases h with h | h
  · exact run_look h (i := 0) rfl
  · exact run_look h (i := 1) rfl
theorem look_b {w : World} {r : Nat} {x y : Value} (h : Ins w r x y true true) : (Instr.lookup 82 (.map (some r)) (.int .i32 98) false).run Tryz.prog w = .ok y w := by
  rcases h with h | h
  · exact run_look h (i := 1) rfl
  · exact run_look h (i := 0) rfl
/-- Worlds where but block r may differ. -/
def put1 (w : World) (r : Nat) (o : Obj) : World := { w with heap := w.heap.setIfInBounds r o }
theorem put1_at {w : World} {r : Nat} {o p : Obj} (h : w.heap[r]? = some p) : (put1 w r o).heap[r]? = some o := by
  have := (Array.getElem?_eq_some_iff.1 h).1
  simp [put1, this]
theorem put1_below {w : World} {r N : Nat} {o : Obj} (h : N ≤ r) : Below N w (put1 w r o) :=
  ⟨rfl, rfl, rfl, by simp [put1], fun k hk => by simp [put1, show r ≠ k by omega]⟩
/-- What an insertion of 97 does. -/
def InsA (N : Nat) (x y : Value) (w w' : World) : Prop := Below N w w' ∧ w'.heap.size = w.heap.size ∧ ((Ins w N x y false false ∧ Ins w' N x y true false) ∨ (Ins w N x y false true ∧ Ins w' N x y true true))
def InsB (N : Nat) (x y : Value) (w w' : World) : Prop := Below N w w' ∧ w'.heap.size = w.heap.size ∧ ((Ins w N x y false false ∧ Ins w' N x y false true) ∨ (Ins w N x y true false ∧ Ins w' N x y true true))
theorem ins_a {w : World} {N : Nat} {x y : Value} (h : Ins w N x y false false ∨ Ins w N x y false true) :
    ∃ w', (Instr.mapUpdate 82 (.map (some N)) (.int .i32 97) x).run Tryz.prog w = .ok () w' ∧ InsA N x y w w' := by
  rcases h with h | h
  · exact ⟨_, run_ins h rfl, put1_below (Nat.le_refl _), by simp, .inl ⟨h, put1_at h⟩⟩
  · exact ⟨_, run_ins h rfl, put1_below (Nat.le_refl _), by simp, .inr ⟨h, .inr (put1_at h)⟩⟩
theorem ins_b {w : World} {N : Nat} {x y : Value} (h : Ins w N x y false false ∨ Ins w N x y true false) :
    ∃ w', (Instr.mapUpdate 82 (.map (some N)) (.int .i32 98) y).run Tryz.prog w = .ok () w' ∧ InsB N x y w w' := by
  rcases h with h | h
  · exact ⟨_, run_ins h rfl, put1_below (Nat.le_refl _), by simp, .inl ⟨h, put1_at h⟩⟩
  · exact ⟨_, run_ins h rfl, put1_below (Nat.le_refl _), by simp, .inr ⟨h, .inl (put1_at h)⟩⟩
/-- The states tell one another apart. -/
theorem ins_one {w : World} {N : Nat} {x y : Value} {a b c d : Bool} (h : Ins w N x y a b) (k : Ins w N x y c d) : a = c ∧ b = d := by
  cases a <;> cases b <;> cases c <;> cases d <;> simp_all [Ins, ent]
theorem ins_lt {w : World} {N : Nat} {x y : Value} {a b : Bool} (h : Ins w N x y a b) : N < w.heap.size := by
  have : ∃ o, w.heap[N]? = some o := by
    cases a <;> cases b
    · exact ⟨_, h⟩
    · exact ⟨_, h⟩
    · exact ⟨_, h⟩
    · rcases h with h | h <;> exact ⟨_, h⟩
  obtain ⟨o, h⟩ := this
  exact (Array.getElem?_eq_some_iff.1 h).1
end Go.Proofs.YtikamehjeaoilaaGreatDoor
/-! A part of an event that is a number: 'a', 'b'. -/
set_option linter.unusedVariables false
set_option linter.unusedSimpArgs false
namespace Go.Proofs.YtikamehjeaoilaaGreatDoor
open Go.RowKit

def LoB (N : Nat) (a b : World) : Prop := N ≤ a.heap.size → Below N a b
theorem LoB.refl (N : Nat) (w : World) : LoB N w w := fun _ => Below.refl _ _
theorem LoB.trans {N : Nat} {a b c : World} (h : LoB N a b) (k : LoB N b c) : LoB N a c := fun hN => (h hN).trans (k (Nat.le_trans hN (h hN).size))
theorem LoB.of_eq {N : Nat} {a b : World} (h : b = a) : LoB N a b := by rw [h]; exact LoB.refl N a
theorem keep_b {N : Nat} {x y : Value} {a b : World} (h : Ins a N x y false true ∨ Ins a N x y true true) (k : InsA N x y a b) : Ins b N x y false true ∨ Ins b N x y true true := by
  rcases k.2.2 with ⟨k1, k2⟩ | ⟨k1, k2⟩
  · rcases h with h | h
    · exact absurd (ins_one h k1).2 (by decide)
    · exact absurd (ins_one h k1).2 (by decide)
  · exact .inr k2
theorem keep_a {N : Nat} {x y : Value} {a b : World} (h : Ins a N x y true false ∨ Ins a N x y true true) (k : InsB N x y a b) : Ins b N x y true false ∨ Ins b N x y true true := by
  rcases k.2.2 with ⟨k1, k2⟩ | ⟨k1, k2⟩
  · rcases h with h | h
    · exact absurd (ins_one h k1).1 (by decide)
    · exact absurd (ins_one h k1).1 (by decide)
  · exact .inr k2
theorem free_a {N : Nat} {x y : Value} {a b : World} (h : Ins a N x y false false ∨ Ins a N x y false true) (k : InsB N x y a b) : Ins b N x y false false ∨ Ins b N x y false true := by
  rcases k.2.2 with ⟨k1, k2⟩ | ⟨k1, k2⟩
  · exact .inr k2
  · rcases h with h | h
    · exact absurd (ins_one h k1).1 (by decide)
    · exact absurd (ins_one h k1).1 (by decide)
theorem free_b {N : Nat} {x y : Value} {a b : World} (h : Ins a N x y false false ∨ Ins a N x y true false) (k : InsA N x y a b) : Ins b N x y false false ∨ Ins b N x y true false := by
  rcases k.2.2 with ⟨k1, k2⟩ | ⟨k1, k2⟩
  · exact .inr k2
  · rcases h with h | h
    · exact absurd (ins_one h k1).2 (by decide)
    · exact absurd (ins_one h k1).2 (by decide)
theorem ins_both {N : Nat} {x y : Value} {a : World} (h : Ins a N x y true false ∨ Ins a N x y true true) (k : Ins a N x y false true ∨ Ins a N x y true true) : Ins a N x y true true := by
  rcases h with h | h
  · rcases k with k | k
    · exact absurd (ins_one h k).1 (by decide)
    · exact k
  · exact h
theorem insA_no {N : Nat} {x y : Value} {a b : World} (h : InsA N x y a b) : N < a.heap.size := by rcases h.2.2 with h | h <;> exact ins_lt h.1
theorem insB_no {N : Nat} {x y : Value} {a b : World} (h : InsB N x y a b) : N < a.heap.size := by rcases h.2.2 with h | h <;> exact ins_lt h.1

theorem InsA.lo {N : Nat} {x y : Value} {a b : World} (h : InsA N x y a b) : LoB N a b := fun _ => h.1
theorem InsB.lo {N : Nat} {x y : Value} {a b : World} (h : InsB N x y a b) : LoB N a b := fun _ => h.1

/-- A number, or none, of the next word, or of nothing. -/
theorem tnum_any (w : World) (t g j : Nat) (ls : List (List UInt8)) (no : Bool) (h : Tak w t g ls j no) (hf : few ls) :
    Calls Tryz.prog 42 #[.pointer (some ⟨t, 0, none⟩)] w fun e w' => e = .returned (.int .i64 (numV (ls.getD j []))) ∧ Tak w' t g ls (min (j + 1) ls.length) (no || !numP 999999 (ls.getD j [])) ∧ Gb t w w' := by
  by_cases hj : j < ls.length
  · refine (tnum_some w t g j ls no h hj hf).mono ?_
    rintro e w' ⟨h1, h2, h3⟩
    rw [show ls.getD j [] = ls[j] by simp [List.getD_eq_getElem?_getD, hj], show min (j + 1) ls.length = j + 1 by omega]
    exact ⟨h1, h2, h3⟩
  · have hjl : j = ls.length := by have := h.2.2; omega
    subst hjl
    have e1 : ls.getD ls.length [] = [] := by simp [List.getD_eq_getElem?_getD]
    rw [e1, show min (ls.length + 1) ls.length = ls.length by omega, show numP 999999 [] = false by decide]
    have H := Lib.hid h
    clear h e1
    go_enter Tryz.func42, Tryz.ntmps42
    go_wp2_with fail
    refine (take_none w t g ls no H.out).mono ?_
    rintro e w1 ⟨rfl, h1, g1⟩
    go_wp2_with fail
    refine (pnumber_any [] 999999 w1 (by decide) (by decide)).mono ?_
    rintro e w2 ⟨rfl, hb2⟩
    rw [show numP 999999 [] = false by decide]
    have h2 := h1.below hb2
    have G2 := Lib.hid (g1.trans (Gb.of_below hb2))
    obtain ⟨c1, f1⟩ := h2.no
    have H2 := Lib.hid h2
    clear h1 g1 hb2 h2
    go_wp2
    go_ret
    exact ⟨rfl, by simpa using H2.out.set1 true, G2.out.trans (Gb.set _ _ _ _)⟩
theorem made_ins {w a b : World} {x y : Value} (h : a = w.drew ∧ b = a.alloc (.map #[] 0)) : Ins b w.heap.size x y false false := by
  obtain ⟨rfl, rfl⟩ := h
  exact alloc_at w.drew _
theorem not_new {w a : World} (h : a = w.drew) (k : w.heap.size < a.heap.size) : False := by rw [h] at k; exact Nat.lt_irrefl _ k

set_option maxHeartbeats 4000000 in
set_option maxRecDepth 100000 in
theorem part_num (w : World) (t ev g j q : Nat) (c : Int) (hc : c = 97 ∧ q = 1 ∨ c = 98 ∧ q = 2) (ls : List (List UInt8)) (no : Bool) (h : Tak w t g ls j no) (hf : few ls) (k : Int) (hk : k ≠ 1) (cs : List Value)
    (hev : w.heap[ev]? = some (.cells (Value.int .i64 k :: cs).toArray 33 (0, 0))) (hcs : cs.length = 10) :
    Calls Tryz.prog 23 #[.pointer (some ⟨t, 0, none⟩), .int .i32 c, .pointer (some ⟨ev, 0, none⟩)] w fun e w' => e = .returned (.tuple #[]) ∧
      Tak w' t g ls (min (j + 1) ls.length) (no || !numP 999999 (ls.getD j [])) ∧ w'.heap[ev]? = some (.cells (Value.int .i64 k :: cs.set (q - 1) (.int .i64 (numV (ls.getD j [])))).toArray 33 (0, 0)) ∧ ∃ w1, Gb t w w1 ∧ Gb ev w1 w' := by
  obtain ⟨x, hx⟩ : ∃ x : Value, x = .iface 81 (.pointer (some ⟨ev, 1, none⟩)) := ⟨_, rfl⟩
  obtain ⟨y, hy⟩ : ∃ y : Value, y = .iface 81 (.pointer (some ⟨ev, 2, none⟩)) := ⟨_, rfl⟩
  obtain ⟨z, hzz, hz⟩ : ∃ z : Value, z = .iface 81 (.pointer (some ⟨ev, q, none⟩)) ∧ ∀ w6, Ins w6 w.heap.size x y true true → (Instr.lookup 82 (.map (some w.heap.size)) (.int .i32 c) false).run Tryz.prog w6 = .ok z w6 := by
    rcases hc with ⟨rfl, rfl⟩ | ⟨rfl, rfl⟩
    · exact ⟨x, hx, fun w6 h => look_a h⟩
    · exact ⟨y, hy, fun w6 h => look_b h⟩
  have HZZ := Lib.hid hzz
  have HT := Lib.hid h
  have HE := Lib.hid hev
  have HC := Lib.hid hc
  have HCS := Lib.hid hcs
  have hk1 : (k == 1) = false := beq_eq_false_iff_ne.2 hk
  clear hzz h hev hc hcs
  have hmm := @run_makeMap Tryz.prog
  have HX := Lib.hid hx
  have HY := Lib.hid hy
  have HZ := Lib.hid hz
  have HMM := Lib.hid hmm
  clear hx hy hz hmm
  go_enter Tryz.func23, Tryz.ntmps23
  go_upto_region 0 with fail
  refine' Se.wp_region_pass (fun w w' => w' = w) (LoB w.heap.size) 14 (by kernel_rfl) (by kernel_rfl) (by kernel_rfl) (by kernel_rfl) (by kernel_rfl) (by kernel_rfl)
    (fun w => LoB.refl _ _) (fun h k => LoB.trans h k) [(fun w3 => w3 = w.drew, 0), (fun w3 => w3 = w.drew ∨ Ins w3 w.heap.size x y false false ∨ Ins w3 w.heap.size x y false true, 5), (fun w3 => w3 = w.drew ∨ Ins w3 w.heap.size x y false false ∨ Ins w3 w.heap.size x y true false, 10)] [] ?_ ?_ (by simp) (fun vals => ?_)
  case refine'_2 =>
    simp only [List.forall_mem_cons]
    exact ⟨trivial, .inl trivial, .inl trivial, by simp⟩
  case refine'_3 =>
    simp only [List.forall_mem_cons]
    exact ⟨fun w1 w2 k h => by rw [k]; exact h, fun w1 w2 k h => by rw [k]; exact h, fun w1 w2 k h => by rw [k]; exact h, by simp⟩
  rotate_left
  simp only [List.take_succ_cons, List.take_zero, List.drop_succ_cons, List.drop_zero]
  (apply Se.pas_s (fun a b => a = w.drew ∧ b = a.alloc (.map #[] 0)) (fun v b => v = .map (some w.heap.size) ∧ w.heap.size < b.heap.size) (fun a b h => by rw [h.2]; exact fun hN => below_alloc' (Below.refl _ _) _ |>.mono hN) rfl (fun v w1 w2 h k => by rw [k]; exact h); (focus rfl); (focus (intro w6 hR hD hP K hK; replace hK := Lib.hid hK; have hp : w6 = w.drew := hP _ (List.mem_cons_self ..) (.inl rfl); replace hp := Lib.hid hp; have hmm := HMM.out; clear hR hD hP; go_simp; exact hK.out _ _ ⟨hp.out, rfl⟩ ⟨by rw [hp.out]; rfl, by rw [World.size_alloc, hp.out]; exact Nat.lt_succ_self _⟩)); simp only [Act.put, List.setIfInBounds_toArray, List.set_cons_zero, List.set_cons_succ, Nat.reduceAdd, List.cons_append, List.nil_append])
  iterate 3 (apply Se.pas_x (fun _ _ h => LoB.of_eq h) rfl; (focus rfl); (focus (intro w6 hR hD hP K hK; replace hK := Lib.hid hK; clear hR hD hP; go_simp; exact hK.out _ rfl)); simp only [Act.put, List.setIfInBounds_toArray, List.set_cons_zero, List.set_cons_succ, Nat.reduceAdd, List.cons_append, List.nil_append])
  (apply Se.pas_r (fun v _ => v = x) (fun _ _ h => LoB.of_eq h) rfl (fun v w1 w2 h k => h); (focus rfl); (focus (intro w6 hR hD hP K hK; replace hK := Lib.hid hK; clear hR hD hP; go_simp; exact hK.out _ _ rfl HX.out.symm)); simp only [Act.put, List.setIfInBounds_toArray, List.set_cons_zero, List.set_cons_succ, Nat.reduceAdd, List.cons_append, List.nil_append])
  (apply Se.pas_s (InsA w.heap.size x y) (fun _ b => Ins b w.heap.size x y true false ∨ Ins b w.heap.size x y true true) (fun a b h => InsA.lo h) rfl (fun v w1 w2 h k => by rw [k]; exact h); (focus rfl); (focus (intro w6 hR hD hP K hK; replace hK := Lib.hid hK; obtain ⟨e0, hlt⟩ : vals 0 = .map (some w.heap.size) ∧ w.heap.size < w6.heap.size := hD 0 (by kernel_rfl); have e4 : vals 4 = x := hD 4 (by kernel_rfl); have hp := hP _ (List.mem_cons_of_mem _ (List.mem_cons_self ..)) (.inl rfl); replace hp := Lib.hid ((hp : w6 = w.drew ∨ _).resolve_left (fun e => Nat.lt_irrefl _ (by rw [e] at hlt; exact hlt))); obtain ⟨w7, hrun, hS⟩ := ins_a hp.out; clear hR hD hP; simp only [e0, e4] at hK ⊢; go_simp; exact hK.out undef _ hS (by rcases hS.2.2 with h | h; exact .inl h.2; exact .inr h.2))); simp only [Act.put, List.setIfInBounds_toArray, List.set_cons_zero, List.set_cons_succ, Nat.reduceAdd, List.cons_append, List.nil_append])
  iterate 3 (apply Se.pas_x (fun _ _ h => LoB.of_eq h) rfl; (focus rfl); (focus (intro w6 hR hD hP K hK; replace hK := Lib.hid hK; clear hR hD hP; go_simp; exact hK.out _ rfl)); simp only [Act.put, List.setIfInBounds_toArray, List.set_cons_zero, List.set_cons_succ, Nat.reduceAdd, List.cons_append, List.nil_append])
  (apply Se.pas_r (fun v _ => v = y) (fun _ _ h => LoB.of_eq h) rfl (fun v w1 w2 h k => h); (focus rfl); (focus (intro w6 hR hD hP K hK; replace hK := Lib.hid hK; clear hR hD hP; go_simp; exact hK.out _ _ rfl HY.out.symm)); simp only [Act.put, List.setIfInBounds_toArray, List.set_cons_zero, List.set_cons_succ, Nat.reduceAdd, List.cons_append, List.nil_append])
  (apply Se.pas_s (InsB w.heap.size x y) (fun _ b => Ins b w.heap.size x y false true ∨ Ins b w.heap.size x y true true) (fun a b h => InsB.lo h) rfl (fun v w1 w2 h k => by rw [k]; exact h); (focus rfl); (focus (intro w6 hR hD hP K hK; replace hK := Lib.hid hK; obtain ⟨e0, hlt⟩ : vals 0 = .map (some w.heap.size) ∧ w.heap.size < w6.heap.size := hD 0 (by kernel_rfl); have e4 : vals 9 = y := hD 9 (by kernel_rfl); have hp := hP _ (List.mem_cons_of_mem _ (List.mem_cons_of_mem _ (List.mem_cons_self ..))) (.inl rfl); replace hp := Lib.hid ((hp : w6 = w.drew ∨ _).resolve_left (fun e => Nat.lt_irrefl _ (by rw [e] at hlt; exact hlt))); obtain ⟨w7, hrun, hS⟩ := ins_b hp.out; clear hR hD hP; simp only [e0, e4] at hK ⊢; go_simp; exact hK.out undef _ hS (by rcases hS.2.2 with h | h; exact .inl h.2; exact .inr h.2))); simp only [Act.put, List.setIfInBounds_toArray, List.set_cons_zero, List.set_cons_succ, Nat.reduceAdd, List.cons_append, List.nil_append])
  (apply Se.pas_r (fun v _ => v = .map (some w.heap.size)) (fun _ _ h => LoB.of_eq h) rfl (fun v w1 w2 h k => h); (focus rfl); (focus (intro w6 hR hD hP K hK; replace hK := Lib.hid hK; obtain ⟨e0, hlt⟩ : vals 0 = .map (some w.heap.size) ∧ w.heap.size < w6.heap.size := hD 0 (by kernel_rfl); simp only [e0] at hK ⊢; clear hR hD hP e0; go_simp; exact hK.out _ _ rfl rfl)); simp only [Act.put, List.setIfInBounds_toArray, List.set_cons_zero, List.set_cons_succ, Nat.reduceAdd, List.cons_append, List.nil_append])
  (apply Se.pas_x (fun _ _ h => LoB.of_eq h) rfl; (focus rfl); (focus (intro w6 hR hD hP K hK; replace hK := Lib.hid hK; clear hR hD hP; go_simp; exact hK.out _ rfl)); simp only [Act.put, List.setIfInBounds_toArray, List.set_cons_zero, List.set_cons_succ, Nat.reduceAdd, List.cons_append, List.nil_append])
  (apply Se.pas_x (fun _ _ h => LoB.of_eq h) rfl; (focus rfl); (focus (intro w6 hR hD hP K hK; replace hK := Lib.hid hK; have h5 : Ins w6 w.heap.size x y true false ∨ Ins w6 w.heap.size x y true true := hD 5 (by kernel_rfl); have h10 : Ins w6 w.heap.size x y false true ∨ Ins w6 w.heap.size x y true true := hD 10 (by kernel_rfl); have e11 : vals 11 = .map (some w.heap.size) := hD 11 (by kernel_rfl); have hl := HZ.out w6 (ins_both h5 h10); simp only [e11] at hK ⊢; clear hR hD hP h5 h10 e11; go_simp; exact hK.out _ rfl)); simp only [Act.put, List.setIfInBounds_toArray, List.set_cons_zero, List.set_cons_succ, Nat.reduceAdd, List.cons_append, List.nil_append])
  refine Se.pas_ends ?_ ?_ fun w6 hR hp _ => ?_
  · simp only [Se.AllK, true_and, and_true, true_or, or_true, Nat.reduceAdd]
    exact ⟨⟨.inr (.inr fun _ _ _ _ _ h => h), .inr (.inl (by kernel_rfl)), .inr (.inr fun _ _ _ _ _ h => h), .inr (.inl (by kernel_rfl)), .inr (.inr fun _ _ _ _ _ h => h)⟩,
      ⟨.inr (.inr fun v a b _ hs h => ⟨h.1, by rw [hs.2.1]; exact h.2⟩), .inr (.inr fun _ _ _ _ _ h => h), .inr (.inr fun _ _ _ _ _ h => h), .inr (.inr fun v a b _ hs h => keep_b h hs), .inr (.inr fun _ _ _ _ _ h => h)⟩,
      .inr (.inr fun v a b _ hs h => ⟨h.1, by rw [hs.2.1]; exact h.2⟩), .inr (.inr fun _ _ _ _ _ h => h), .inr (.inr fun v a b _ hs h => keep_a h hs), .inr (.inr fun _ _ _ _ _ h => h), .inr (.inr fun _ _ _ _ _ h => h)⟩
  · simp only [Se.AllK, true_and, and_true, Nat.reduceAdd]
    refine ⟨fun e he => ?_, fun e he => ?_, fun e he => ?_⟩
    all_goals
      simp only [List.mem_cons, List.not_mem_nil, or_false] at he
      rcases he with rfl | rfl | rfl
    · exact .inl rfl
    · exact .inr fun a b _ hs _ => .inr (.inl (made_ins hs))
    · exact .inr fun a b _ hs _ => .inr (.inl (made_ins hs))
    · exact .inr fun a b _ hs h => (not_new h (insA_no hs)).elim
    · exact .inl rfl
    · exact .inr fun a b _ hs h => by
        rcases h with h | h
        · exact (not_new h (insA_no hs)).elim
        · exact .inr (free_b h hs)
    · exact .inr fun a b _ hs h => (not_new h (insB_no hs)).elim
    · exact .inr fun a b _ hs h => by
        rcases h with h | h
        · exact (not_new h (insB_no hs)).elim
        · exact .inr (free_a h hs)
    · exact .inl rfl
  have hb6 : Below w.heap.size w w6 := (Below.refl w.heap.size w).drew.trans (hR (Nat.le_refl _))
  have hT6 := HT.out.below hb6
  have hE6 := block_below HE.out hb6
  have e0 := cell_of_block hE6 0 _ rfl
  have H6 := Lib.hid hT6
  have HE6 := Lib.hid hE6
  have HB6 := Lib.hid hb6
  clear hR hp hT6 hE6 hb6
  rw [HZZ.out]
  have hta : ∀ w, (Instr.typeAssert (.iface 81 (.pointer (some ⟨ev, q, none⟩))) 20 81 true).run Tryz.prog w = .ok (.tuple #[.pointer (some ⟨ev, q, none⟩), .bool true]) w := fun _ => by kernel_rfl
  go_wp2_with fail
  refine (tnum_any w6 t g j ls no H6.out hf).mono ?_
  rintro e w7 ⟨rfl, h7, g7⟩
  have hne : ev ≠ t := fun e => by
    obtain ⟨⟨c0, a0, h1, _⟩, _⟩ := H6.out
    have h2 := HE6.out
    rw [e, h1] at h2
    injection h2 with h2
    injection h2 with _ h2
    exact absurd h2 (by decide)
  have hE7 := Gb.block' g7 HE6.out hne
  have hq : 1 ≤ q ∧ q ≤ 2 := by rcases HC.out with ⟨_, rfl⟩ | ⟨_, rfl⟩ <;> omega
  obtain ⟨v0, c0⟩ : ∃ v0, w7.cell? ⟨ev, q, none⟩ = some v0 := ⟨_, cell_of_block hE7 q ((Value.int .i64 k :: cs)[q]'(by have := HCS.out; simp; omega)) (by simp)⟩
  have fr := free_of_block hE7 q
  have hG7 : Gb t w w7 := (Gb.of_below HB6.out).trans g7
  have hT8 : Tak (w7.setCell ⟨ev, q, none⟩ (.int .i64 (numV (ls.getD j [])))) t g ls (min (j + 1) ls.length) (no || !numP 999999 (ls.getD j [])) := by
    obtain ⟨⟨c1, a1, h1, h2⟩, h3, h4⟩ := h7
    refine ⟨⟨c1, a1, (Below.heap_setCell _ _ _ _ (Ne.symm hne)).trans h1, h2⟩, (Below.heap_setCell _ _ _ _ fun (e : g = ev) => ?_).trans h3, h4⟩
    unfold Blk at h3
    rw [e, hE7] at h3
    injection h3 with h3
    injection h3 with _ h3
    exact absurd h3 (by decide)
  have hE8 : (w7.setCell ⟨ev, q, none⟩ (.int .i64 (numV (ls.getD j [])))).heap[ev]? = some (.cells (Value.int .i64 k :: cs.set (q - 1) (.int .i64 (numV (ls.getD j [])))).toArray 33 (0, 0)) := by
    have := heap_setCell_same w7 ev q _ _ (.int .i64 (numV (ls.getD j []))) hE7
    rw [List.setIfInBounds_toArray] at this
    obtain ⟨q', rfl⟩ : ∃ q', q = q' + 1 := ⟨q - 1, by omega⟩
    simpa using this
  have HT8 := Lib.hid hT8
  have HE8 := Lib.hid hE8
  have HG7 := Lib.hid hG7
  clear h7 g7 hne hE7 hq hG7 hT8 hE8
  go_wp2
  refine bodyPost_ret (results_none rfl _ _ _) rfl ?_
  exact ⟨rfl, HT8.out, HE8.out, w7, HG7.out, Gb.set _ _ _ _⟩
end Go.Proofs.YtikamehjeaoilaaGreatDoor
