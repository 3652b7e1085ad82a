/- A node's word, by play. -/
import Derived.Test.YtofofjfmhaggmaaGreatDoorPt
import Derived.Test.YtofofjfmhaggmaaGreatDoorLq
import Derived.Test.YtofofjfmhaggmaaGreatDoorSe
import Derived.MapKept
import Derived.Test.YtofofjfmhaggmaaGreatDoorPy
import Derived.Defers
import Derived.Recover
import Derived.Lib.ItoaMem
import Derived.Lib.AppendIntMem
import Derived.Lib.ItoaLen
set_option linter.unusedVariables false
set_option linter.unusedSimpArgs false
namespace Go.Proofs.YtofofjfmhaggmaaGreatDoor
open Go.RowKit

end Go.Proofs.YtofofjfmhaggmaaGreatDoor
/-! Numbers of a word, by play. -/
set_option linter.unusedVariables false
set_option linter.unusedSimpArgs false
namespace Go.Proofs.YtofofjfmhaggmaaGreatDoor
open Go.RowKit

end Go.Proofs.YtofofjfmhaggmaaGreatDoor
/-! The taker: a line's words, taken one by one. -/
set_option linter.unusedVariables false
set_option linter.unusedSimpArgs false
namespace Go.Proofs.YtofofjfmhaggmaaGreatDoor
open Go.RowKit

end Go.Proofs.YtofofjfmhaggmaaGreatDoor

/-! A word's kind; what stands behind it. -/
set_option linter.unusedVariables false
set_option linter.unusedSimpArgs false
namespace Go.Proofs.YtofofjfmhaggmaaGreatDoor
open Go.RowKit

end Go.Proofs.YtofofjfmhaggmaaGreatDoor
/-! A map literal of two entries, laid in whatever order. -/
set_option linter.unusedVariables false
set_option linter.unusedSimpArgs false
namespace Go.Proofs.YtofofjfmhaggmaaGreatDoor
open Go.RowKit

end Go.Proofs.YtofofjfmhaggmaaGreatDoor
/-! A part of an event that is a number: 'a', 'b'. -/
set_option linter.unusedVariables false
set_option linter.unusedSimpArgs false
namespace Go.Proofs.YtofofjfmhaggmaaGreatDoor
open Go.RowKit

def LoB (N : Nat) (a b : World) : Prop := N ≤ a.heap.size → Below N a b
theorem LoB.refl (N : Nat) (w : World) : LoB N w w := fun _ => Below.refl _ _
theorem LoB.trans {N : Nat} {a b c : World} (h : LoB N a b) (k : LoB N b c) : LoB N a c := fun hN => (h hN).trans (k (Nat.le_trans hN (h hN).size))
end Go.Proofs.YtofofjfmhaggmaaGreatDoor
/-! Two numbers of a word, a set of a word, by play. -/
set_option linter.unusedVariables false
set_option linter.unusedSimpArgs false
namespace Go.Proofs.YtofofjfmhaggmaaGreatDoor
open Go.RowKit

end Go.Proofs.YtofofjfmhaggmaaGreatDoor
/-! A set of a word, by play. -/
set_option linter.unusedVariables false
set_option linter.unusedSimpArgs false
namespace Go.Proofs.YtofofjfmhaggmaaGreatDoor
open Go.RowKit

/-- Texts in blocks from a number on. -/
def Tx (base : Nat) (w : World) (v : Value) (l : List (List UInt8)) : Prop :=
  ∃ a c, v = .slice a l.length c ∧ few l ∧ ∀ i, (h : i < l.length) → ∃ (b off : Nat) (cs : Array Value), a = some ⟨b, off, none⟩ ∧ base ≤ b ∧ w.heap[b]? = some (.cells cs 9 (0, 0)) ∧ cs[off + i]? = some (.string (str l[i]))
theorem Tx.below {base : Nat} {w w' : World} {v : Value} {l : List (List UInt8)} (h : Tx base w v l) (k : Below w.heap.size w w') : Tx base w' v l := by
  obtain ⟨a, c, e, hf, hc⟩ := h
  exact ⟨a, c, e, hf, fun i hi => by obtain ⟨b, off, cs, e1, e2, e3, e4⟩ := hc i hi; exact ⟨b, off, cs, e1, e2, block_below e3 k, e4⟩⟩
theorem Tx.base {base base' : Nat} {w : World} {v : Value} {l : List (List UInt8)} (h : Tx base w v l) (k : base' ≤ base) : Tx base' w v l := by
  obtain ⟨a, c, e, hf, hc⟩ := h
  exact ⟨a, c, e, hf, fun i hi => by obtain ⟨b, off, cs, e1, e2, e3⟩ := hc i hi; exact ⟨b, off, cs, e1, Nat.le_trans k e2, e3⟩⟩
theorem Tx.gb {base g : Nat} {w w' : World} {v : Value} {l : List (List UInt8)} (h : Tx base w v l) (k : Gb g w w') (hg : g < base) : Tx base w' v l := by
  obtain ⟨a, c, e, hf, hc⟩ := h
  exact ⟨a, c, e, hf, fun i hi => by
    obtain ⟨b, off, cs, e1, e2, e3, e4⟩ := hc i hi
    exact ⟨b, off, cs, e1, e2, Gb.block' k e3 (by omega), e4⟩⟩
/-- Where rows of texts stand. -/
theorem Tx.kept {base : Nat} {w w' : World} {v : Value} {l : List (List UInt8)} (h : Tx base w v l) (k : ∀ (b : Nat) (cs : Array Value), w.heap[b]? = some (.cells cs 9 (0, 0)) → w'.heap[b]? = some (.cells cs 9 (0, 0))) : Tx base w' v l := by
  obtain ⟨a, c, e, hf, hc⟩ := h
  exact ⟨a, c, e, hf, fun i hi => by obtain ⟨b, off, cs, e1, e2, e3, e4⟩ := hc i hi; exact ⟨b, off, cs, e1, e2, k b cs e3, e4⟩⟩
theorem Tx.nil (base : Nat) (w : World) : Tx base w (.slice none 0 0) [] := ⟨none, 0, rfl, ⟨Nat.zero_le _, by simp⟩, fun i hi => absurd hi (Nat.not_lt_zero _)⟩
theorem Tx.drew {base : Nat} {w : World} {v : Value} {l : List (List UInt8)} (h : Tx base w v l) : Tx base w.drew v l := h
theorem cell_inv {w : World} {g : Nat} {cs : Array Value} {T : TypeId} (h : w.heap[g]? = some (.cells cs T (0, 0))) (j : Nat) : w.cell? ⟨g, j, none⟩ = cs[j]? := by simp [World.cell?, h]
theorem Tx.of_strs {base : Nat} {w : World} {v : Value} {l : List (List UInt8)} (h : Strs base w v (l.map str)) (hf : few l) : Tx base w v l := by
  unfold Strs at h
  rcases own_forms h with ⟨rfl, h1, _⟩ | ⟨g, cap, rfl, hb, _⟩
  · have : l = [] := by rw [List.length_map] at h1; exact List.length_eq_zero_iff.1 h1
    subst this; exact Tx.nil _ _
  · obtain ⟨cs, hcs⟩ : ∃ cs, w.heap[g]? = some (.cells cs 9 (0, 0)) := by
      rcases h.2 with ⟨h0, _⟩ | ⟨g', cap', cur, e1, _, hh, _⟩
      · cases h0
      · injection e1 with e1; injection e1 with e1; injection e1 with e1; subst e1; exact ⟨_, hh⟩
    refine ⟨some ⟨g, 0, none⟩, cap, by rw [List.length_map], hf, fun i hi => ⟨g, 0, cs, rfl, hb, hcs, ?_⟩⟩
    rw [Nat.zero_add, ← cell_inv hcs, h.cellAt i (by rw [Nat.mul_one, List.length_map]; exact hi)]
    rw [List.getElem?_map, List.getElem?_map, List.getElem?_eq_getElem hi]; rfl
end Go.Proofs.YtofofjfmhaggmaaGreatDoor
/-! An event with one number. -/
set_option linter.unusedVariables false
set_option linter.unusedSimpArgs false
namespace Go.Proofs.YtofofjfmhaggmaaGreatDoor
open Go.RowKit

end Go.Proofs.YtofofjfmhaggmaaGreatDoor
/-! A cell of which nothing is known yet: tapes, coordinators and shards without anything. -/
set_option linter.unusedVariables false
set_option linter.unusedSimpArgs false
namespace Go.Proofs.YtofofjfmhaggmaaGreatDoor
open Go.RowKit

/-- An empty tape lies at block b. -/
def TapeE (w : World) (b : Nat) : Prop := w.heap[b]? = some (.cells #[.slice none 0 0, .int .i64 0, .int .i64 0] 89 (0, 0))

/-- An empty map lies at block b. -/
def MapE (w : World) (b : Nat) : Prop := w.heap[b]? = some (.map #[] 0)
theorem MapE.below {w w' : World} {b : Nat} (h : MapE w b) (hb : Below w.heap.size w w') : MapE w' b := block_below h hb
theorem TapeE.below {w w' : World} {b : Nat} (h : TapeE w b) (hb : Below w.heap.size w w') : TapeE w' b := block_below h hb
/-- A ledger of nothing. -/
def LedgerE (w : World) (l : Nat) : Prop := ∃ a b, w.heap[l]? = some (.cells #[.map (some a), .map (some b)] 147 (0, 0)) ∧ MapE w a ∧ MapE w b
theorem LedgerE.below {w w' : World} {l : Nat} (h : LedgerE w l) (hb : Below w.heap.size w w') : LedgerE w' l := by
  obtain ⟨a, b, h1, h2, h3⟩ := h
  exact ⟨a, b, block_below h1 hb, h2.below hb, h3.below hb⟩
/-- A shard that knows nothing. -/
def ShardE (w : World) (c : Nat) (me mode : Int) (t : Nat) : Prop := ∃ l m, w.heap[c]? = some (.cells #[.int .i64 me, .int .i64 mode, .pointer (some ⟨t, 0, none⟩), .pointer (some ⟨l, 0, none⟩), .map (some m)] 94 (0, 0)) ∧ LedgerE w l ∧ MapE w m
theorem ShardE.below {w w' : World} {c t : Nat} {me mode : Int} (h : ShardE w c me mode t) (hb : Below w.heap.size w w') : ShardE w' c me mode t := by
  obtain ⟨l, m, h1, h2, h3⟩ := h
  exact ⟨l, m, block_below h1 hb, h2.below hb, h3.below hb⟩
theorem alloc_is {w : World} {i : Nat} (h : i = w.heap.size) (o : Obj) : (w.alloc o).heap[i]? = some o := by rw [h]; exact alloc_at w o
end Go.Proofs.YtofofjfmhaggmaaGreatDoor

/-! A participant started: the walk of Cell.start on an empty tape. -/
set_option linter.unusedVariables false
set_option linter.unusedSimpArgs false
namespace Go.Proofs.YtofofjfmhaggmaaGreatDoor
open Go.RowKit

end Go.Proofs.YtofofjfmhaggmaaGreatDoor

/-! A cell made anew. -/
set_option linter.unusedVariables false
set_option linter.unusedSimpArgs false
namespace Go.Proofs.YtofofjfmhaggmaaGreatDoor
open Go.RowKit

theorem own_block {w : World} {base n size : Nat} {e : TypeId} {v : Value} {xs : List Value} (h : w.ownsRow base e size v n xs) {g : Nat} (hg : v.ownBlock = some g) : ∃ cs, w.heap[g]? = some (.cells cs e (0, 0)) := by
  rcases h.2 with h | ⟨g', cap', cur, e1, _, hh, _⟩
  · obtain ⟨rfl, _⟩ := h
    cases hg
  · subst e1
    obtain rfl : g' = g := by injection hg
    exact ⟨_, hh⟩
end Go.Proofs.YtofofjfmhaggmaaGreatDoor

/-! The keys of an empty map, sorted: there are none; a tick of a coordinator that knows nothing. -/
set_option linter.unusedVariables false
set_option linter.unusedSimpArgs false
namespace Go.Proofs.YtofofjfmhaggmaaGreatDoor
open Go.RowKit Go.Maps Go.Sort Go.Shelf

end Go.Proofs.YtofofjfmhaggmaaGreatDoor
/-! A tick of the coordinator, as an event of a cell that knows nothing. -/
set_option linter.unusedVariables false
set_option linter.unusedSimpArgs false
namespace Go.Proofs.YtofofjfmhaggmaaGreatDoor
open Go.RowKit

end Go.Proofs.YtofofjfmhaggmaaGreatDoor

/-! A tick of the coordinator, answered. -/
set_option linter.unusedVariables false
set_option linter.unusedSimpArgs false
namespace Go.Proofs.YtofofjfmhaggmaaGreatDoor
open Go.RowKit

end Go.Proofs.YtofofjfmhaggmaaGreatDoor
/-! Scripts of ticks of the coordinator, lines that are none, empty ones. -/
set_option linter.unusedVariables false
set_option linter.unusedSimpArgs false
namespace Go.Proofs.YtofofjfmhaggmaaGreatDoor
open Go.RowKit

def tickL : List UInt8 := [116, 105, 99, 107, 32, 48]
/-- All stands but rows of texts. -/
def Ks (w w' : World) : Prop := ∀ (g : Nat) (o : Obj), w.heap[g]? = some o → (∀ cs, o ≠ .cells cs 9 (0, 0)) → w'.heap[g]? = some o
theorem Ks.of_grown {w w' : World} {base n : Nat} {v : Value} {xs : List Value} (h : w.ownsRow base 9 1 v n xs) (hg : w.grownBy w' v.ownBlock) : Ks w w' := fun g o hgo h1 => by
  refine (hg.block g (Array.getElem?_eq_some_iff.1 hgo).1 fun hv => ?_).trans hgo
  obtain ⟨cs, hcs⟩ := own_block h hv.symm
  rw [hgo] at hcs
  injection hcs with hcs
  exact h1 cs hcs
theorem grown_at {w w' : World} {row : Option Nat} {g : Nat} {o : Obj} (h : w.grownBy w' row) (hz : w.heap[g]? = some o) (hne : ∀ k, row = some k → k ≠ g) : w'.heap[g]? = some o :=
  (h.block g (Array.getElem?_eq_some_iff.1 hz).1 (fun e => hne g e.symm rfl)).trans hz
end Go.Proofs.YtofofjfmhaggmaaGreatDoor
/-! Plain words on scripts of ticks: lines, answers, numbers; no program is walked. -/
set_option linter.unusedVariables false
set_option linter.unusedSimpArgs false
namespace Go.Proofs.YtofofjfmhaggmaaGreatDoor
open Go.RowKit

def ticks (rs : List (List UInt8)) : Nat := rs.countP (fun r => decide (r = tickL))
/-! ### A tick's number -/
end Go.Proofs.YtofofjfmhaggmaaGreatDoor
/-! Numbers as texts; texts joined. -/
set_option linter.unusedVariables false
set_option linter.unusedSimpArgs false
namespace Go.Proofs.YtofofjfmhaggmaaGreatDoor
open Go.RowKit

def Int64 (n : Int) : Prop := -9223372036854775808 ≤ n ∧ n ≤ 9223372036854775807
theorem itoa_any (w : World) (ht : Tabs w) (n : Int) (hn : Int64 n) : Calls Tryz.prog 139 #[.int .i64 n] w fun e w' => e = .returned (.string (str (Lib.itoa n))) ∧ Below w.heap.size w w' := by
  refine (Tryz.strconv_Itoa n hn.1 hn.2 w ht.1).mono ?_
  rintro e w' ⟨h1, k, os, rfl⟩
  exact ⟨h1, Lib.below_grow _ _ (Nat.le_refl _) _ _⟩


theorem join_strs (w : World) (g cap base : Nat) (xs : List (List UInt8)) (h : w.ownsRow base 9 1 (.slice (some ⟨g, 0, none⟩) xs.length cap) xs.length (xs.map fun l => .string (str l))) (hx : xs.length ≤ 100) (hl : (Lib.join xs [32]).length ≤ 140737488355328) :
    Calls Tryz.prog 141 #[.slice (some ⟨g, 0, none⟩) xs.length cap, .string ⟨#[32]⟩] w fun e w' => e = .returned (.string (str (Lib.join xs [32]))) ∧ Below w.heap.size w w' := by
  have e1 : (xs.map str).map (fun b : ByteArray => b.data.toList) = xs := by
    rw [List.map_map]
    conv => rhs; rw [← List.map_id xs]
    exact List.map_congr_left fun l _ => by simp [str]
  have hg : g < w.heap.size := by
    rcases own_forms h with ⟨h0, _⟩ | ⟨g', cap', h0, _, h1⟩
    · simp at h0
    · simp only [Value.slice.injEq, Option.some.injEq, Addr.mk.injEq, and_true, true_and] at h0
      rw [h0.1]; exact h1
  have hcap : xs.length ≤ cap := by
    rcases h.2 with ⟨h0, _⟩ | ⟨g', cap', cur, h0, _, _, h1, _⟩
    · simp at h0
    · simp only [Value.slice.injEq, Option.some.injEq, Addr.mk.injEq, and_true, true_and] at h0
      rw [h0.2]; exact h1
  have := Tryz.strings_Join g 0 cap (xs.map str) ⟨#[32]⟩ w (fun j x hj => by
    have hj' : j < xs.length := by have := (List.getElem?_eq_some_iff.1 hj).1; simpa using this
    rw [Nat.zero_add, h.cellAt j (by omega), List.getElem?_map]
    rw [List.getElem?_map] at hj
    obtain ⟨l, hl, rfl⟩ := Option.map_eq_some_iff.1 hj
    rw [hl]; rfl) hg (by simp; omega) (by simpa using hcap) (by rw [e1]; exact hl)
  rw [e1, List.length_map] at this
  exact this


theorem join_two (a b : List UInt8) : Lib.join [a, b] [32] = a ++ 32 :: b := by simp [Lib.join]
end Go.Proofs.YtofofjfmhaggmaaGreatDoor
/-! Numbers as texts; rows of signed texts. -/
set_option linter.unusedVariables false
set_option linter.unusedSimpArgs false
namespace Go.Proofs.YtofofjfmhaggmaaGreatDoor
open Go.RowKit

theorem rowT_app (c : UInt8) (a b : List (List UInt8)) : rowT c (a ++ b) = rowT c a ++ rowT c b := by simp [rowT]
theorem rowT_next {c : UInt8} {ls : List (List UInt8)} {i : Nat} (h : i < ls.length) : rowT c (ls.take (i + 1)) = rowT c (ls.take i) ++ c :: ls[i] := by
  rw [List.take_succ_eq_append_getElem h, rowT_app]
  simp [rowT]
theorem rowT_le (c : UInt8) (ls : List (List UInt8)) (i : Nat) : (rowT c (ls.take i)).length ≤ (rowT c ls).length := by
  have h := congrArg List.length (rowT_app c (ls.take i) (ls.drop i))
  rw [List.take_append_drop, List.length_append] at h
  omega
theorem dec_len' (k : Nat) (h : k ≤ 9223372036854775807) : (Lib.decDigits k).length ≤ 21 := by
  have := Lib.itoa_length_le k (by omega) (by omega)
  rwa [Lib.itoa_nonneg] at this
theorem itoa_nat (w : World) (ht : Tabs w) (n : Nat) (hn : n ≤ 9223372036854775807) : Calls Tryz.prog 139 #[.int .i64 n] w fun e w' => e = .returned (.string (str (Lib.decDigits n))) ∧ Below w.heap.size w w' := by
  refine (itoa_any w ht n ⟨by omega, by omega⟩).mono ?_
  rw [Lib.itoa_nonneg]
  exact fun e w' h => h
end Go.Proofs.YtofofjfmhaggmaaGreatDoor
/-! A node's record as a line. -/
set_option linter.unusedVariables false
set_option linter.unusedSimpArgs false
namespace Go.Proofs.YtofofjfmhaggmaaGreatDoor
open Go.RowKit

/-- Texts that can be read. -/
def Rows (w : World) (v : Value) (ls : List (List UInt8)) : Prop := ∃ a c, v = .slice a ls.length c ∧ ls.length ≤ 4294967281 ∧ ∀ i (h : i < ls.length), ∃ b off, a = some ⟨b, off, none⟩ ∧ w.cell? ⟨b, off + i, none⟩ = some (.string (str ls[i]))
theorem Rows.below {w w' : World} {v : Value} {ls : List (List UInt8)} (h : Rows w v ls) (k : Below w.heap.size w w') : Rows w' v ls := by
  obtain ⟨a, c, e, hl, hc⟩ := h
  exact ⟨a, c, e, hl, fun i hi => by obtain ⟨b, off, e1, e2⟩ := hc i hi; exact ⟨b, off, e1, cell_below e2 k⟩⟩
theorem Strs.rows {base : Nat} {w : World} {v : Value} {ls : List (List UInt8)} (h : Strs base w v (ls.map str)) (hl : ls.length ≤ 4294967281) : Rows w v ls := by
  unfold Strs at h
  rw [List.length_map] at h
  rcases own_forms h with ⟨rfl, h1, _⟩ | ⟨g, cap, rfl, _, _⟩
  · have : ls = [] := List.length_eq_zero_iff.1 h1
    subst this
    exact ⟨none, 0, rfl, hl, fun i hi => absurd hi (Nat.not_lt_zero _)⟩
  · refine ⟨_, cap, rfl, hl, fun i hi => ⟨g, 0, rfl, ?_⟩⟩
    rw [Nat.zero_add, h.cellAt i (by omega), List.getElem?_map, List.getElem?_map, List.getElem?_eq_getElem hi]
    rfl
set_option maxHeartbeats 4000000 in
set_option maxRecDepth 100000 in
theorem lvec_any (a b : Nat) (ha : a ≤ 9223372036854775807) (hb0 : b ≤ 9223372036854775807) (w : World) (ht : Tabs w) : Calls Tryz.prog 136 #[.agg #[.int .i64 a, .int .i64 b]] w fun e w' => e = .returned (.string (str (vecT a b))) ∧ Below w.heap.size w w' := by
  have HT := Lib.hid ht
  clear ht
  go_enter Tryz.func136, Tryz.ntmps136
  go_wp2_with fail
  have hz1 : (w.alloc (.cells #[.int .i64 a, .int .i64 b] 58)).heap[w.heap.size]? = some (.cells #[.int .i64 a, .int .i64 b] 58 (0, 0)) := alloc_at _ _
  have hb1 : Below w.heap.size w (w.alloc (.cells #[.int .i64 a, .int .i64 b] 58)) := below_alloc' (Below.refl _ _) _
  generalize World.alloc w _ = w1 at hz1 hb1 ⊢
  obtain ⟨d1, hd1⟩ : ∃ d, str (Lib.decDigits a) = d := ⟨_, rfl⟩
  obtain ⟨d2, hd2⟩ : ∃ d, str (Lib.decDigits b) = d := ⟨_, rfl⟩
  have l1 : d1.size ≤ 21 := by rw [← hd1, str_size]; exact dec_len' a ha
  have l2 : d2.size ≤ 21 := by rw [← hd2, str_size]; exact dec_len' b hb0
  have a1 : ¬ 9223372036854775807 < d1.size + 1 := by omega
  have a2 : ¬ 9223372036854775807 < d1.size + 1 + d2.size := by omega
  have HD1 := Lib.hid hd1
  have HD2 := Lib.hid hd2
  have hs : ∀ w6, Below w1.drew.heap.size w1.drew w6 → w6.cell? ⟨w.heap.size, 0, none⟩ = some (.int .i64 a) ∧ w6.cell? ⟨w.heap.size, 1, none⟩ = some (.int .i64 b) := fun w6 h => by
    have hz := block_below (w := w1.drew) hz1 h
    exact ⟨cell_of_block hz 0 _ rfl, cell_of_block hz 1 _ rfl⟩
  have HS := Lib.hid hs
  have HB1 := Lib.hid hb1
  clear hd1 hd2 hs hb1 hz1
  refine' Par.wp_region_pars (fun w w' => Below w.heap.size w w') 9 (by kernel_rfl) (by kernel_rfl) (by kernel_rfl) (by kernel_rfl) (by kernel_rfl) (by kernel_rfl)
    (fun w => Below.refl _ w) (fun h k => below_call h k) (fun vals => ?_)
  rotate_left
  simp only [List.take_succ_cons, List.take_zero, List.drop_succ_cons, List.drop_zero]
  (apply Par.par_x rfl; (focus (intro w6 hR hD K hK; replace hK := Lib.hid hK; skip; clear hR hD; go_simp; exact hK.out _ (Below.refl _ _))); simp only [Act.put, List.setIfInBounds_toArray, List.set_cons_zero, List.set_cons_succ, Nat.reduceAdd, List.cons_append, List.nil_append])
  (apply Par.par_x rfl; (focus (intro w6 hR hD K hK; replace hK := Lib.hid hK; obtain ⟨e0, e1⟩ := HS.out w6 hR; clear hR hD; go_simp; exact hK.out _ (Below.refl _ _))); simp only [Act.put, List.setIfInBounds_toArray, List.set_cons_zero, List.set_cons_succ, Nat.reduceAdd, List.cons_append, List.nil_append])
  (apply Par.par_x rfl; (focus (intro w6 hR hD K hK; replace hK := Lib.hid hK; have htb := HT.out.below (below_call HB1.out.drew hR); clear hR hD; go_simp; refine (itoa_nat w6 htb a ha).mono ?_; rw [HD1.out]; rintro r w7 ⟨rfl, hb⟩; exact hK.out _ hb)); simp only [Act.put, List.setIfInBounds_toArray, List.set_cons_zero, List.set_cons_succ, Nat.reduceAdd, List.cons_append, List.nil_append])
  iterate 2 (apply Par.par_x rfl; (focus (intro w6 hR hD K hK; replace hK := Lib.hid hK; skip; clear hR hD; go_simp; exact hK.out _ (Below.refl _ _))); simp only [Act.put, List.setIfInBounds_toArray, List.set_cons_zero, List.set_cons_succ, Nat.reduceAdd, List.cons_append, List.nil_append])
  (apply Par.par_x rfl; (focus (intro w6 hR hD K hK; replace hK := Lib.hid hK; obtain ⟨e0, e1⟩ := HS.out w6 hR; clear hR hD; go_simp; exact hK.out _ (Below.refl _ _))); simp only [Act.put, List.setIfInBounds_toArray, List.set_cons_zero, List.set_cons_succ, Nat.reduceAdd, List.cons_append, List.nil_append])
  (apply Par.par_x rfl; (focus (intro w6 hR hD K hK; replace hK := Lib.hid hK; have htb := HT.out.below (below_call HB1.out.drew hR); clear hR hD; go_simp; refine (itoa_nat w6 htb b hb0).mono ?_; rw [HD2.out]; rintro r w7 ⟨rfl, hb⟩; exact hK.out _ hb)); simp only [Act.put, List.setIfInBounds_toArray, List.set_cons_zero, List.set_cons_succ, Nat.reduceAdd, List.cons_append, List.nil_append])
  iterate 2 (apply Par.par_x rfl; (focus (intro w6 hR hD K hK; replace hK := Lib.hid hK; skip; clear hR hD; go_simp; exact hK.out _ (Below.refl _ _))); simp only [Act.put, List.setIfInBounds_toArray, List.set_cons_zero, List.set_cons_succ, Nat.reduceAdd, List.cons_append, List.nil_append])
  refine Par.par_end fun w6 hR hp => ?_
  clear hp
  have HB6 := Lib.hid (below_call HB1.out.drew hR)
  clear hR HS
  go_wp2
  go_ret
  refine ⟨ret_str ?_, HB6.out⟩
  rw [← HD1.out, ← HD2.out, show (⟨#[44]⟩ : ByteArray) = str [44] from rfl, str_append, str_append]
  simp [vecT]
theorem lflag_any (b : Bool) (w : World) : Calls Tryz.prog 138 #[.bool b] w fun e w' => e = .returned (.string (str (flagT b))) ∧ w = w' := by
  cases b
  all_goals
    go_enter Tryz.func138, Tryz.ntmps138
    go_wp2
    go_ret
    exact ⟨rfl, rfl⟩
set_option maxHeartbeats 4000000 in
set_option maxRecDepth 100000 in
theorem lsigned_any (c : UInt8) (v : Value) (ls : List (List UInt8)) (w : World) (h : Rows w v ls) (hl : (rowT c ls).length ≤ 4294967000) : Calls Tryz.prog 137 #[.string ⟨#[c]⟩, v] w fun e w' => e = .returned (.string (str (rowT c ls))) ∧ w = w' := by
  obtain ⟨a, cp, rfl, hn, hc⟩ := h
  obtain ⟨n, hnn⟩ : ∃ n, ls.length = n := ⟨_, rfl⟩
  rw [hnn] at hn
  rw [hnn]
  have HN := Lib.hid hnn
  have HC := Lib.hid hc
  have HL := Lib.hid hl
  clear hnn hc hl
  go_enter Tryz.func137, Tryz.ntmps137
  go_wp2_with fail
  go_loopw [5, 10] (fun u x wr => ∃ i : Nat, x = .int .i64 i ∧ i ≤ n ∧ u = .string (str (rowT c (ls.take i))) ∧ wr = w) (fun _ x _ => n - (intOf x).toNat)
  case atStart => exact ⟨0, rfl, Nat.zero_le _, rfl, rfl⟩
  case round =>
    obtain ⟨i, rfl, hi, rfl, rfl⟩ := hrel
    by_cases hin : i < n
    · have hil : i < ls.length := by rw [HN.out]; exact hin
      have hin' : (i : Int) < n := by omega
      obtain ⟨b, off, rfl, hcc⟩ := HC.out i hil
      have hnx := rowT_next (c := c) hil
      have hle := rowT_le c ls (i + 1)
      rw [hnx, List.length_append] at hle
      have hll := HL.out
      obtain ⟨t1, ht1⟩ : ∃ z, str (rowT c (ls.take i)) = z := ⟨_, rfl⟩
      obtain ⟨t2, ht2⟩ : ∃ z, str ls[i] = z := ⟨_, rfl⟩
      have s1 : t1.size = (rowT c (ls.take i)).length := by rw [← ht1, str_size]
      have s2 : t2.size = ls[i].length := by rw [← ht2, str_size]
      have s3 : ¬ 9223372036854775807 < 1 + t2.size := by simp at hle; omega
      have s4 : ¬ 9223372036854775807 < t1.size + (1 + t2.size) := by simp at hle; omega
      have s5 : (⟨#[c]⟩ : ByteArray).size = 1 := rfl
      rw [ht1]
      rw [ht2] at hcc
      have HT1 := Lib.hid ht1
      have HT2 := Lib.hid ht2
      have HNX := Lib.hid hnx
      clear hnx hle hll ht1 ht2 s1 s2
      go_wp2_with fail
      go_roundw
      case rel =>
        refine ⟨i + 1, by go_num, by omega, ?_, trivial⟩
        rw [HNX.out, ← HT1.out, ← HT2.out, show (⟨#[c]⟩ : ByteArray) = str [c] from rfl, str_append, str_append]
        simp
      case measure => simp [intOf]; omega
    · have hie : i = n := by omega
      subst hie
      have htk : ls.take i = ls := by rw [← HN.out, List.take_length]
      rw [htk]
      have hin' : ¬ (i : Int) < i := by omega
      go_wp2_with fail
      go_ret
      exact ⟨rfl, rfl⟩
theorem peered_one (w : World) : Calls Tryz.prog 140 #[.int .i64 1] w fun e w' => e = .returned (.bool false) ∧ w = w' := by
  go_enter Tryz.func140, Tryz.ntmps140
  go_wp2
  go_ret
  exact ⟨rfl, rfl⟩
end Go.Proofs.YtofofjfmhaggmaaGreatDoor
