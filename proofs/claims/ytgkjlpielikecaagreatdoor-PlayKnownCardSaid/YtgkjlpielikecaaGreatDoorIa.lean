/- A cell of which nothing is known yet: tapes, coordinators and shards without anything. -/
import Derived.Test.YtgkjlpielikecaaGreatDoorPs
set_option linter.unusedVariables false
set_option linter.unusedSimpArgs false
namespace Go.Proofs.YtgkjlpielikecaaGreatDoor
open Go.RowKit

/-- An empty tape lies at block b. -/
def TapeE (w : World) (b : Nat) : Prop := w.heap[b]? = some (.cells #[.slice none 0 0, .int .i64 0, .int .i64 0] 129 (0, 0))

set_option maxHeartbeats 1000000 in
set_option maxRecDepth 100000 in
theorem tape_new (w : World) : Calls Tryz.prog 40 #[] w fun e w' => ∃ b, e = .returned (.pointer (some ⟨b, 0, none⟩)) ∧ w.heap.size ≤ b ∧ TapeE w' b ∧ Below w.heap.size w w' := by
  go_enter Tryz.func40, Tryz.ntmps40
  go_wp2
  go_ret
  exact ⟨_, rfl, Nat.le_refl _, alloc_at _ _, below_alloc' (Below.refl _ _) _⟩

theorem mk_strs (w : World) : (Instr.makeSlice 25 (.int .i64 0) (.int .i64 0)).run Tryz.prog w = .ok (.slice (some ⟨w.heap.size, 0, none⟩) 0 0) (w.alloc (.cells #[] 9)) := by kernel_rfl
theorem mk_recs (w : World) : (Instr.makeSlice 177 (.int .i64 0) (.int .i64 0)).run Tryz.prog w = .ok (.slice (some ⟨w.heap.size, 0, none⟩) 0 0) (w.alloc (.cells #[] 64)) := by kernel_rfl

set_option maxHeartbeats 1000000 in
set_option maxRecDepth 100000 in
theorem tape_lines (w : World) (b : Nat) (h : TapeE w b) : Calls Tryz.prog 148 #[.pointer (some ⟨b, 0, none⟩)] w fun e w' => (∃ a, e = .returned (.slice a 0 0)) ∧ Below w.heap.size w w' := by
  have e0 := cell_of_block h 0 _ rfl
  have e1 := cell_of_block h 1 _ rfl
  have d0 : ∀ o, (w.alloc o).cell? ⟨b, 0, none⟩ = some (.slice none 0 0) := fun o => cell_of_block (block_below h (below_alloc' (Below.refl _ _) _)) 0 _ rfl
  have hm := mk_strs w
  go_enter Tryz.func148, Tryz.ntmps148
  go_wp2
  refine wp_loop_rounds 1 ?_
  rw [rounds_succ]
  go_wp2
  go_ret
  exact ⟨⟨_, rfl⟩, below_alloc' (Below.refl _ _) _⟩

set_option maxHeartbeats 1000000 in
set_option maxRecDepth 100000 in
theorem tape_all (w : World) (b : Nat) (h : TapeE w b) : Calls Tryz.prog 109 #[.pointer (some ⟨b, 0, none⟩)] w fun e w' => (∃ a c, e = .returned (.slice a 0 c)) ∧ Below w.heap.size w w' := by
  have e0 := cell_of_block h 0 _ rfl
  have e1 := cell_of_block h 1 _ rfl
  have hm := mk_recs w
  go_enter Tryz.func109, Tryz.ntmps109
  go_wp2_with fail
  have hb : Below w.heap.size w (w.alloc (.cells #[] 64)) := below_alloc' (Below.refl _ _) _
  refine (tape_lines _ b (block_below h hb)).mono ?_
  rintro e w1 ⟨⟨a, rfl⟩, hb1⟩
  have HB := Lib.hid (below_call hb hb1)
  clear hb1 e0 e1 hb
  go_wp2
  refine wp_loop_rounds 1 ?_
  rw [rounds_succ]
  go_wp2
  go_ret
  exact ⟨⟨_, _, rfl⟩, HB.out⟩

/-- An empty map lies at block b. -/
def MapE (w : World) (b : Nat) : Prop := w.heap[b]? = some (.map #[] 0)
theorem MapE.below {w w' : World} {b : Nat} (h : MapE w b) (hb : Below w.heap.size w w') : MapE w' b := block_below h hb
theorem TapeE.below {w w' : World} {b : Nat} (h : TapeE w b) (hb : Below w.heap.size w w') : TapeE w' b := block_below h hb
/-- A coordinator that knows nothing. -/
def CoordE (w : World) (c : Nat) (n : Int) (t : Nat) : Prop := ∃ m, w.heap[c]? = some (.cells #[.int .i64 n, .pointer (some ⟨t, 0, none⟩), .map (some m)] 176 (0, 0)) ∧ MapE w m
theorem CoordE.below {w w' : World} {c t : Nat} {n : Int} (h : CoordE w c n t) (hb : Below w.heap.size w w') : CoordE w' c n t := by
  obtain ⟨m, h1, h2⟩ := h
  exact ⟨m, block_below h1 hb, h2.below hb⟩
/-- A ledger of nothing. -/
def LedgerE (w : World) (l : Nat) : Prop := ∃ a b, w.heap[l]? = some (.cells #[.map (some a), .map (some b)] 255 (0, 0)) ∧ MapE w a ∧ MapE w b
theorem LedgerE.below {w w' : World} {l : Nat} (h : LedgerE w l) (hb : Below w.heap.size w w') : LedgerE w' l := by
  obtain ⟨a, b, h1, h2, h3⟩ := h
  exact ⟨a, b, block_below h1 hb, h2.below hb, h3.below hb⟩
/-- A shard that knows nothing. -/
def ShardE (w : World) (c : Nat) (me mode : Int) (t : Nat) : Prop := ∃ l m, w.heap[c]? = some (.cells #[.int .i64 me, .int .i64 mode, .pointer (some ⟨t, 0, none⟩), .pointer (some ⟨l, 0, none⟩), .map (some m)] 195 (0, 0)) ∧ LedgerE w l ∧ MapE w m
theorem ShardE.below {w w' : World} {c t : Nat} {me mode : Int} (h : ShardE w c me mode t) (hb : Below w.heap.size w w') : ShardE w' c me mode t := by
  obtain ⟨l, m, h1, h2, h3⟩ := h
  exact ⟨l, m, block_below h1 hb, h2.below hb, h3.below hb⟩
/-- A post without messages. -/
def PostE (w : World) (p : Nat) : Prop := ∃ r, w.heap[p]? = some (.cells #[.iface 119 (.pointer (some ⟨r, 0, none⟩))] 126 (0, 0)) ∧ w.heap[r]? = some (.cells #[.slice none 0 0] 122 (0, 0))
theorem PostE.below {w w' : World} {p : Nat} (h : PostE w p) (hb : Below w.heap.size w w') : PostE w' p := by
  obtain ⟨r, h1, h2⟩ := h
  exact ⟨r, block_below h1 hb, block_below h2 hb⟩

theorem alloc_is {w : World} {i : Nat} (h : i = w.heap.size) (o : Obj) : (w.alloc o).heap[i]? = some o := by rw [h]; exact alloc_at w o
theorem alloc_old {w : World} {i : Nat} {p o : Obj} (h : w.heap[i]? = some p) : (w.alloc o).heap[i]? = some p := block_below h (below_alloc' (Below.refl _ _) _)

set_option maxHeartbeats 1000000 in
set_option maxRecDepth 100000 in
theorem coord_new (n : Int) (w : World) (b : Nat) (h : TapeE w b) : Calls Tryz.prog 71 #[.int .i64 n, .pointer (some ⟨b, 0, none⟩)] w fun e w' => ∃ c, e = .returned (.pointer (some ⟨c, 0, none⟩)) ∧ w.heap.size ≤ c ∧ CoordE w' c n b ∧ Below w.heap.size w w' := by
  have hmm := @run_makeMap Tryz.prog
  go_enter Tryz.func71, Tryz.ntmps71
  go_wp2_with fail
  have hb1 : Below w.heap.size w (w.alloc (.map #[] 0)) := below_alloc' (Below.refl _ _) _
  have hb2 : Below w.heap.size w ((w.alloc (.map #[] 0)).alloc (.cells #[.int .i64 n, .pointer (some ⟨b, 0, none⟩), .map (some w.heap.size)] 176)) := below_alloc' hb1 _
  have hc : CoordE ((w.alloc (.map #[] 0)).alloc (.cells #[.int .i64 n, .pointer (some ⟨b, 0, none⟩), .map (some w.heap.size)] 176)) (w.heap.size + 1) n b :=
    ⟨_, alloc_is (by simp) _, alloc_old (alloc_at _ _)⟩
  generalize World.alloc _ (.cells #[.int .i64 n, .pointer (some ⟨b, 0, none⟩), .map (some w.heap.size)] 176) = w2 at hb2 hc ⊢
  refine (tape_all _ b (h.below hb2)).mono ?_
  rintro e w3 ⟨⟨a, c, rfl⟩, hb3⟩
  have HC := Lib.hid (hc.below hb3)
  have HB := Lib.hid (below_call hb2 hb3)
  clear hb1 hb2 hb3 hc
  go_wp2
  refine wp_loop_rounds 1 ?_
  rw [rounds_succ]
  go_wp2
  go_ret
  exact ⟨_, rfl, Nat.le_succ _, HC.out, HB.out⟩
set_option maxHeartbeats 1000000 in
set_option maxRecDepth 100000 in
theorem ledger_new (w : World) : Calls Tryz.prog 112 #[] w fun e w' => ∃ l, e = .returned (.pointer (some ⟨l, 0, none⟩)) ∧ w.heap.size ≤ l ∧ LedgerE w' l ∧ Below w.heap.size w w' := by
  have hmm := @run_makeMap Tryz.prog
  go_enter Tryz.func112, Tryz.ntmps112
  go_wp2_with fail
  go_ret
  exact ⟨_, rfl, Nat.le_succ_of_le (Nat.le_succ _), ⟨_, _, alloc_is (by simp) _, alloc_old (alloc_old (alloc_at _ _)), alloc_old (alloc_second _ _ _)⟩, below_alloc' (below_alloc' (below_alloc' (Below.refl _ _) _) _) _⟩
set_option maxHeartbeats 1000000 in
set_option maxRecDepth 100000 in
theorem shard_new (me mode : Int) (w : World) (b : Nat) (h : TapeE w b) : Calls Tryz.prog 72 #[.int .i64 me, .int .i64 mode, .pointer (some ⟨b, 0, none⟩)] w fun e w' => ∃ c, e = .returned (.pointer (some ⟨c, 0, none⟩)) ∧ w.heap.size ≤ c ∧ ShardE w' c me mode b ∧ Below w.heap.size w w' := by
  have hmm := @run_makeMap Tryz.prog
  go_enter Tryz.func72, Tryz.ntmps72
  go_wp2_with fail
  refine (ledger_new _).mono ?_
  rintro e w1 ⟨l, rfl, hl1, hl, hb1⟩
  go_wp2_with fail
  have hc : ShardE ((w1.alloc (.map #[] 0)).alloc (.cells #[.int .i64 me, .int .i64 mode, .pointer (some ⟨b, 0, none⟩), .pointer (some ⟨l, 0, none⟩), .map (some w1.heap.size)] 195)) (w1.heap.size + 1) me mode b :=
    ⟨_, _, alloc_is (by simp) _, hl.below (below_alloc' (below_alloc' (Below.refl _ _) _) _), alloc_old (alloc_at _ _)⟩
  have hb2 : Below w.heap.size w ((w1.alloc (.map #[] 0)).alloc (.cells #[.int .i64 me, .int .i64 mode, .pointer (some ⟨b, 0, none⟩), .pointer (some ⟨l, 0, none⟩), .map (some w1.heap.size)] 195)) := below_alloc' (below_alloc' hb1 _) _
  have hs := hb1.size
  generalize World.alloc _ (.cells #[.int .i64 me, .int .i64 mode, .pointer (some ⟨b, 0, none⟩), .pointer (some ⟨l, 0, none⟩), .map (some w1.heap.size)] 195) = w2 at hb2 hc ⊢
  refine (tape_all _ b (h.below hb2)).mono ?_
  rintro e w3 ⟨⟨a, c, rfl⟩, hb3⟩
  have HC := Lib.hid (hc.below hb3)
  have HB := Lib.hid (below_call hb2 hb3)
  clear hb1 hb2 hb3 hc hl
  go_wp2
  refine wp_loop_rounds 1 ?_
  rw [rounds_succ]
  go_wp2
  go_ret
  exact ⟨_, rfl, by omega, HC.out, HB.out⟩
set_option maxHeartbeats 1000000 in
set_option maxRecDepth 100000 in
theorem post_new (w : World) : Calls Tryz.prog 39 #[] w fun e w' => ∃ p, e = .returned (.pointer (some ⟨p, 0, none⟩)) ∧ w.heap.size ≤ p ∧ PostE w' p ∧ Below w.heap.size w w' := by
  go_enter Tryz.func39, Tryz.ntmps39
  go_wp2_with fail
  go_ret
  exact ⟨_, rfl, Nat.le_succ _, ⟨_, alloc_second _ _ _, alloc_old (alloc_at _ _)⟩, below_alloc' (below_alloc' (Below.refl _ _) _) _⟩
end Go.Proofs.YtgkjlpielikecaaGreatDoor
