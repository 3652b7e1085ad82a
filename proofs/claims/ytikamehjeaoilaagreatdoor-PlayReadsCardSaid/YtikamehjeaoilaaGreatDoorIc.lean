/- A cell of which nothing is known yet: tapes, coordinators and shards without anything. -/
import Derived.Test.YtikamehjeaoilaaGreatDoorPs
import Derived.Test.YtikamehjeaoilaaGreatDoorSe
set_option linter.unusedVariables false
set_option linter.unusedSimpArgs false
namespace Go.Proofs.YtikamehjeaoilaaGreatDoor
open Go.RowKit

/-- An empty tape lies at block b. -/
def TapeE (w : World) (b : Nat) : Prop := w.heap[b]? = some (.cells #[.slice none 0 0, .int .i64 0, .int .i64 0] 140 (0, 0))

set_option maxHeartbeats 1000000 in
set_option maxRecDepth 100000 in
theorem tape_new (w : World) : Calls Tryz.prog 54 #[] w fun e w' => ∃ b, e = .returned (.pointer (some ⟨b, 0, none⟩)) ∧ w.heap.size ≤ b ∧ TapeE w' b ∧ Below w.heap.size w w' := by
  go_enter Tryz.func54, Tryz.ntmps54
  go_wp2
  go_ret
  exact ⟨_, rfl, Nat.le_refl _, alloc_at _ _, below_alloc' (Below.refl _ _) _⟩

theorem mk_strs (w : World) : (Instr.makeSlice 29 (.int .i64 0) (.int .i64 0)).run Tryz.prog w = .ok (.slice (some ⟨w.heap.size, 0, none⟩) 0 0) (w.alloc (.cells #[] 9)) := by kernel_rfl
theorem mk_recs (w : World) : (Instr.makeSlice 189 (.int .i64 0) (.int .i64 0)).run Tryz.prog w = .ok (.slice (some ⟨w.heap.size, 0, none⟩) 0 0) (w.alloc (.cells #[] 118)) := by kernel_rfl

set_option maxHeartbeats 1000000 in
set_option maxRecDepth 100000 in
theorem tape_lines (w : World) (b : Nat) (h : TapeE w b) : Calls Tryz.prog 164 #[.pointer (some ⟨b, 0, none⟩)] w fun e w' => (∃ a, e = .returned (.slice a 0 0)) ∧ Below w.heap.size w w' := by
  have e0 := cell_of_block h 0 _ rfl
  have e1 := cell_of_block h 1 _ rfl
  have d0 : ∀ o, (w.alloc o).cell? ⟨b, 0, none⟩ = some (.slice none 0 0) := fun o => cell_of_block (block_below h (below_alloc' (Below.refl _ _) _)) 0 _ rfl
  have hm := mk_strs w
  go_enter Tryz.func164, Tryz.ntmps164
  go_wp2
  refine wp_loop_rounds 1 ?_
  rw [rounds_succ]
  go_wp2
  go_ret
  exact ⟨⟨_, rfl⟩, below_alloc' (Below.refl _ _) _⟩

set_option maxHeartbeats 1000000 in
set_option maxRecDepth 100000 in
theorem tape_all (w : World) (b : Nat) (h : TapeE w b) : Calls Tryz.prog 116 #[.pointer (some ⟨b, 0, none⟩)] w fun e w' => (∃ a c, e = .returned (.slice a 0 c)) ∧ Below w.heap.size w w' := by
  have e0 := cell_of_block h 0 _ rfl
  have e1 := cell_of_block h 1 _ rfl
  have hm := mk_recs w
  go_enter Tryz.func116, Tryz.ntmps116
  go_wp2_with fail
  have hb : Below w.heap.size w (w.alloc (.cells #[] 118)) := below_alloc' (Below.refl _ _) _
  refine (tape_lines _ b (block_below h hb)).mono ?_
  rintro e w1 ⟨⟨a, rfl⟩, hb1⟩
  have HB := Lib.hid (below_call hb hb1)
  clear hb1 e0 e1 hb
  go_wp2
  refine wp_loop_rounds 1 ?_
  rw [rounds_succ]
  go_wp2
  go_ret
  exact ⟨⟨_, _, rfl⟩, HB.out⟩

/-- An empty map lies at block b. -/
def MapE (w : World) (b : Nat) : Prop := w.heap[b]? = some (.map #[] 0)
theorem MapE.below {w w' : World} {b : Nat} (h : MapE w b) (hb : Below w.heap.size w w') : MapE w' b := block_below h hb
theorem TapeE.below {w w' : World} {b : Nat} (h : TapeE w b) (hb : Below w.heap.size w w') : TapeE w' b := block_below h hb
/-- A coordinator that knows nothing. -/
def CoordE (w : World) (c : Nat) (n : Int) (t : Nat) : Prop := ∃ m, w.heap[c]? = some (.cells #[.int .i64 n, .pointer (some ⟨t, 0, none⟩), .map (some m)] 188 (0, 0)) ∧ MapE w m
theorem CoordE.below {w w' : World} {c t : Nat} {n : Int} (h : CoordE w c n t) (hb : Below w.heap.size w w') : CoordE w' c n t := by
  obtain ⟨m, h1, h2⟩ := h
  exact ⟨m, block_below h1 hb, h2.below hb⟩
/-- A ledger of nothing. -/
def LedgerE (w : World) (l : Nat) : Prop := ∃ a b, w.heap[l]? = some (.cells #[.map (some a), .map (some b)] 262 (0, 0)) ∧ MapE w a ∧ MapE w b
theorem LedgerE.below {w w' : World} {l : Nat} (h : LedgerE w l) (hb : Below w.heap.size w w') : LedgerE w' l := by
  obtain ⟨a, b, h1, h2, h3⟩ := h
  exact ⟨a, b, block_below h1 hb, h2.below hb, h3.below hb⟩
/-- A shard that knows nothing. -/
def ShardE (w : World) (c : Nat) (me mode : Int) (t : Nat) : Prop := ∃ l m, w.heap[c]? = some (.cells #[.int .i64 me, .int .i64 mode, .pointer (some ⟨t, 0, none⟩), .pointer (some ⟨l, 0, none⟩), .map (some m)] 207 (0, 0)) ∧ LedgerE w l ∧ MapE w m
theorem ShardE.below {w w' : World} {c t : Nat} {me mode : Int} (h : ShardE w c me mode t) (hb : Below w.heap.size w w') : ShardE w' c me mode t := by
  obtain ⟨l, m, h1, h2, h3⟩ := h
  exact ⟨l, m, block_below h1 hb, h2.below hb, h3.below hb⟩
/-- A post without messages. -/
def PostE (w : World) (p : Nat) : Prop := ∃ r, w.heap[p]? = some (.cells #[.iface 130 (.pointer (some ⟨r, 0, none⟩))] 137 (0, 0)) ∧ w.heap[r]? = some (.cells #[.slice none 0 0] 133 (0, 0))
theorem PostE.below {w w' : World} {p : Nat} (h : PostE w p) (hb : Below w.heap.size w w') : PostE w' p := by
  obtain ⟨r, h1, h2⟩ := h
  exact ⟨r, block_below h1 hb, block_below h2 hb⟩

theorem alloc_is {w : World} {i : Nat} (h : i = w.heap.size) (o : Obj) : (w.alloc o).heap[i]? = some o := by rw [h]; exact alloc_at w o
theorem alloc_old {w : World} {i : Nat} {p o : Obj} (h : w.heap[i]? = some p) : (w.alloc o).heap[i]? = some p := block_below h (below_alloc' (Below.refl _ _) _)

set_option maxHeartbeats 1000000 in
set_option maxRecDepth 100000 in
theorem coord_new (n : Int) (w : World) (b : Nat) (h : TapeE w b) : Calls Tryz.prog 80 #[.int .i64 n, .pointer (some ⟨b, 0, none⟩)] w fun e w' => ∃ c, e = .returned (.pointer (some ⟨c, 0, none⟩)) ∧ w.heap.size ≤ c ∧ CoordE w' c n b ∧ Below w.heap.size w w' := by
  have hmm := @run_makeMap Tryz.prog
  go_enter Tryz.func80, Tryz.ntmps80
  go_wp2_with fail
  have hb1 : Below w.heap.size w (w.alloc (.map #[] 0)) := below_alloc' (Below.refl _ _) _
  have hb2 : Below w.heap.size w ((w.alloc (.map #[] 0)).alloc (.cells #[.int .i64 n, .pointer (some ⟨b, 0, none⟩), .map (some w.heap.size)] 188)) := below_alloc' hb1 _
  have hc : CoordE ((w.alloc (.map #[] 0)).alloc (.cells #[.int .i64 n, .pointer (some ⟨b, 0, none⟩), .map (some w.heap.size)] 188)) (w.heap.size + 1) n b :=
    ⟨_, alloc_is (by simp) _, alloc_old (alloc_at _ _)⟩
  generalize World.alloc _ (.cells #[.int .i64 n, .pointer (some ⟨b, 0, none⟩), .map (some w.heap.size)] 188) = w2 at hb2 hc ⊢
  refine (tape_all _ b (h.below hb2)).mono ?_
  rintro e w3 ⟨⟨a, c, rfl⟩, hb3⟩
  have HC := Lib.hid (hc.below hb3)
  have HB := Lib.hid (below_call hb2 hb3)
  clear hb1 hb2 hb3 hc
  go_wp2
  refine wp_loop_rounds 1 ?_
  rw [rounds_succ]
  go_wp2
  go_ret
  exact ⟨_, rfl, Nat.le_succ _, HC.out, HB.out⟩
set_option maxHeartbeats 1000000 in
set_option maxRecDepth 100000 in
theorem ledger_new (w : World) : Calls Tryz.prog 119 #[] w fun e w' => ∃ l, e = .returned (.pointer (some ⟨l, 0, none⟩)) ∧ w.heap.size ≤ l ∧ LedgerE w' l ∧ Below w.heap.size w w' := by
  have hmm := @run_makeMap Tryz.prog
  go_enter Tryz.func119, Tryz.ntmps119
  go_wp2_with fail
  go_ret
  exact ⟨_, rfl, Nat.le_succ_of_le (Nat.le_succ _), ⟨_, _, alloc_is (by simp) _, alloc_old (alloc_old (alloc_at _ _)), alloc_old (alloc_second _ _ _)⟩, below_alloc' (below_alloc' (below_alloc' (Below.refl _ _) _) _) _⟩
set_option maxHeartbeats 1000000 in
set_option maxRecDepth 100000 in
theorem shard_new (me mode : Int) (w : World) (b : Nat) (h : TapeE w b) : Calls Tryz.prog 81 #[.int .i64 me, .int .i64 mode, .pointer (some ⟨b, 0, none⟩)] w fun e w' => ∃ c, e = .returned (.pointer (some ⟨c, 0, none⟩)) ∧ w.heap.size ≤ c ∧ ShardE w' c me mode b ∧ Below w.heap.size w w' := by
  have hmm := @run_makeMap Tryz.prog
  go_enter Tryz.func81, Tryz.ntmps81
  go_wp2_with fail
  refine (ledger_new _).mono ?_
  rintro e w1 ⟨l, rfl, hl1, hl, hb1⟩
  go_wp2_with fail
  have hc : ShardE ((w1.alloc (.map #[] 0)).alloc (.cells #[.int .i64 me, .int .i64 mode, .pointer (some ⟨b, 0, none⟩), .pointer (some ⟨l, 0, none⟩), .map (some w1.heap.size)] 207)) (w1.heap.size + 1) me mode b :=
    ⟨_, _, alloc_is (by simp) _, hl.below (below_alloc' (below_alloc' (Below.refl _ _) _) _), alloc_old (alloc_at _ _)⟩
  have hb2 : Below w.heap.size w ((w1.alloc (.map #[] 0)).alloc (.cells #[.int .i64 me, .int .i64 mode, .pointer (some ⟨b, 0, none⟩), .pointer (some ⟨l, 0, none⟩), .map (some w1.heap.size)] 207)) := below_alloc' (below_alloc' hb1 _) _
  have hs := hb1.size
  generalize World.alloc _ (.cells #[.int .i64 me, .int .i64 mode, .pointer (some ⟨b, 0, none⟩), .pointer (some ⟨l, 0, none⟩), .map (some w1.heap.size)] 207) = w2 at hb2 hc ⊢
  refine (tape_all _ b (h.below hb2)).mono ?_
  rintro e w3 ⟨⟨a, c, rfl⟩, hb3⟩
  have HC := Lib.hid (hc.below hb3)
  have HB := Lib.hid (below_call hb2 hb3)
  clear hb1 hb2 hb3 hc hl
  go_wp2
  refine wp_loop_rounds 1 ?_
  rw [rounds_succ]
  go_wp2
  go_ret
  exact ⟨_, rfl, by omega, HC.out, HB.out⟩
set_option maxHeartbeats 1000000 in
set_option maxRecDepth 100000 in
theorem post_new (w : World) : Calls Tryz.prog 53 #[] w fun e w' => ∃ p, e = .returned (.pointer (some ⟨p, 0, none⟩)) ∧ w.heap.size ≤ p ∧ PostE w' p ∧ Below w.heap.size w w' := by
  go_enter Tryz.func53, Tryz.ntmps53
  go_wp2_with fail
  go_ret
  exact ⟨_, rfl, Nat.le_succ _, ⟨_, alloc_second _ _ _, alloc_old (alloc_at _ _)⟩, below_alloc' (below_alloc' (Below.refl _ _) _) _⟩
end Go.Proofs.YtikamehjeaoilaaGreatDoor
/-! A participant started: the walk of Cell.start on an empty tape. -/
set_option linter.unusedVariables false
set_option linter.unusedSimpArgs false
namespace Go.Proofs.YtikamehjeaoilaaGreatDoor
open Go.RowKit

/-- A cell's own blocks: its struct at c, its participants at wa. -/
def CellB (w : World) (c wa p n : Nat) (mode : Int) (u : Value) (ws : List Value) : Prop :=
  w.heap[c]? = some (.cells #[.int .i64 mode, u, .slice (some ⟨wa, 0, none⟩) (n + 1) (n + 1), .pointer (some ⟨p, 0, none⟩)] 100 (0, 0)) ∧ w.heap[wa]? = some (.cells ws.toArray 144 (0, 0)) ∧ ws.length = n + 1
theorem CellB.below {w w' : World} {c wa p n : Nat} {mode : Int} {u : Value} {ws : List Value} (h : CellB w c wa p n mode u ws) (hb : Below w.heap.size w w') : CellB w' c wa p n mode u ws :=
  ⟨block_below h.1 hb, block_below h.2.1 hb, h.2.2⟩

set_option maxHeartbeats 4000000 in
set_option maxRecDepth 100000 in
theorem start_coord (w : World) (c wa p n : Nat) (hn : n ≤ 4) (mode : Int) (ta m cu t : Nat) (ws : List Value) (h : CellB w c wa p n mode (.slice (some ⟨ta, 0, none⟩) (m + 1) cu) ws)
    (ht0 : w.cell? ⟨ta, 0, none⟩ = some (.pointer (some ⟨t, 0, none⟩))) (hta : ta < w.heap.size) (ht : TapeE w t) :
    Calls Tryz.prog 55 #[.pointer (some ⟨c, 0, none⟩), .int .i64 0] w fun e w' => ∃ o w1, e = .returned (.tuple #[]) ∧ w.heap.size ≤ o ∧ CoordE w1 o n t ∧ Below w.heap.size w w1 ∧ w' = w1.setCell ⟨wa, 0, none⟩ (.iface 141 (.pointer (some ⟨o, 0, none⟩))) := by
  go_enter Tryz.func55, Tryz.ntmps55
  have HH := Lib.hid h
  have hfacts : ∀ w6, Below w.heap.size w.drew w6 → w6.cell? ⟨c, 0, none⟩ = some (.int .i64 mode) ∧ w6.cell? ⟨c, 1, none⟩ = some (.slice (some ⟨ta, 0, none⟩) (m + 1) cu) ∧ w6.cell? ⟨c, 2, none⟩ = some (.slice (some ⟨wa, 0, none⟩) (n + 1) (n + 1)) ∧ w6.cell? ⟨ta, 0, none⟩ = some (.pointer (some ⟨t, 0, none⟩)) ∧ TapeE w6 t := fun w6 hb => by
    have hb' : Below w.heap.size w w6 := (Below.refl w.heap.size w).drew.trans hb
    have k := (h.below hb').1
    exact ⟨cell_of_block k 0 _ rfl, cell_of_block k 1 _ rfl, cell_of_block k 2 _ rfl, cell_below ht0 hb', ht.below hb'⟩
  have HF := Lib.hid hfacts
  have hn1 : ((n + 1 : Nat) : Int) - 1 = n := by omega
  have hn2 : IntKind.i64.wrap (n : Int) = n := IntWalk.i64_in _ (by omega)
  clear hfacts h ht0 ht
  go_upto_region 1 with fail
  refine' Par.wp_region_pars (fun w w' => Below w.heap.size w w') 21 (by kernel_rfl) (by kernel_rfl) (by kernel_rfl) (by kernel_rfl) (by kernel_rfl) (by kernel_rfl)
    (fun w => Below.refl _ w) (fun h k => below_call h k) (fun vals => ?_)
  rotate_left
  simp only [List.take_succ_cons, List.take_zero, List.drop_succ_cons, List.drop_zero]
  iterate 3 (apply Par.par_x rfl; (focus (intro w6 hR hD K hK; replace hK := Lib.hid hK; skip; clear hR hD; go_simp; exact hK.out _ (Below.refl _ _))); simp only [Act.put, List.setIfInBounds_toArray, List.set_cons_zero, List.set_cons_succ, Nat.reduceAdd, List.cons_append, List.nil_append])
  (apply Par.par_x rfl; (focus (intro w6 hR hD K hK; replace hK := Lib.hid hK; obtain ⟨e0, e1, e2, e3, _⟩ := HF.out w6 hR; clear hR hD; go_simp; exact hK.out _ (Below.refl _ _))); simp only [Act.put, List.setIfInBounds_toArray, List.set_cons_zero, List.set_cons_succ, Nat.reduceAdd, List.cons_append, List.nil_append])
  iterate 4 (apply Par.par_x rfl; (focus (intro w6 hR hD K hK; replace hK := Lib.hid hK; skip; clear hR hD; go_simp; exact hK.out _ (Below.refl _ _))); simp only [Act.put, List.setIfInBounds_toArray, List.set_cons_zero, List.set_cons_succ, Nat.reduceAdd, List.cons_append, List.nil_append])
  (apply Par.par_x rfl; (focus (intro w6 hR hD K hK; replace hK := Lib.hid hK; obtain ⟨e0, e1, e2, e3, _⟩ := HF.out w6 hR; clear hR hD; go_simp; exact hK.out _ (Below.refl _ _))); simp only [Act.put, List.setIfInBounds_toArray, List.set_cons_zero, List.set_cons_succ, Nat.reduceAdd, List.cons_append, List.nil_append])
  iterate 5 (apply Par.par_x rfl; (focus (intro w6 hR hD K hK; replace hK := Lib.hid hK; skip; clear hR hD; go_simp; exact hK.out _ (Below.refl _ _))); simp only [Act.put, List.setIfInBounds_toArray, List.set_cons_zero, List.set_cons_succ, Nat.reduceAdd, List.cons_append, List.nil_append])
  (apply Par.par_x rfl; (focus (intro w6 hR hD K hK; replace hK := Lib.hid hK; obtain ⟨e0, e1, e2, e3, _⟩ := HF.out w6 hR; clear hR hD; go_simp; exact hK.out _ (Below.refl _ _))); simp only [Act.put, List.setIfInBounds_toArray, List.set_cons_zero, List.set_cons_succ, Nat.reduceAdd, List.cons_append, List.nil_append])
  iterate 2 (apply Par.par_x rfl; (focus (intro w6 hR hD K hK; replace hK := Lib.hid hK; skip; clear hR hD; go_simp; exact hK.out _ (Below.refl _ _))); simp only [Act.put, List.setIfInBounds_toArray, List.set_cons_zero, List.set_cons_succ, Nat.reduceAdd, List.cons_append, List.nil_append])
  (apply Par.par_x rfl; (focus (intro w6 hR hD K hK; replace hK := Lib.hid hK; obtain ⟨e0, e1, e2, e3, _⟩ := HF.out w6 hR; clear hR hD; go_simp; exact hK.out _ (Below.refl _ _))); simp only [Act.put, List.setIfInBounds_toArray, List.set_cons_zero, List.set_cons_succ, Nat.reduceAdd, List.cons_append, List.nil_append])
  (apply Par.par_r (fun v w' => ∃ o, v = .pointer (some ⟨o, 0, none⟩) ∧ w.heap.size ≤ o ∧ CoordE w' o n t) rfl (fun v w1 w2 h k => by obtain ⟨o, h1, h2, h3⟩ := h; exact ⟨o, h1, h2, h3.below k⟩); (focus (intro w6 hR hD K hK; replace hK := Lib.hid hK; obtain ⟨e0, e1, e2, e3, e4⟩ := HF.out w6 hR; have hs := Lib.hid (hR : Below w.heap.size w.drew w6).size; clear hR hD e0 e1 e2 e3; go_simp; refine (coord_new n w6 t e4).mono ?_; rintro e w7 ⟨o, rfl, ho, hc, hb⟩; exact hK.out _ _ hb ⟨o, rfl, Nat.le_trans hs.out ho, hc⟩)); simp only [Act.put, List.setIfInBounds_toArray, List.set_cons_zero, List.set_cons_succ, Nat.reduceAdd, List.cons_append, List.nil_append])
  (apply Par.par_r (fun v w' => ∃ o, v = .iface 141 (.pointer (some ⟨o, 0, none⟩)) ∧ w.heap.size ≤ o ∧ CoordE w' o n t) rfl (fun v w1 w2 h k => by obtain ⟨o, h1, h2, h3⟩ := h; exact ⟨o, h1, h2, h3.below k⟩); (focus (intro w6 hR hD K hK; replace hK := Lib.hid hK; obtain ⟨o, h1, h2, h3⟩ : ∃ o, vals 18 = .pointer (some ⟨o, 0, none⟩) ∧ w.heap.size ≤ o ∧ CoordE w6 o n t := hD 18 (by kernel_rfl); simp only [h1] at hK ⊢; replace h2 := Lib.hid h2; replace h3 := Lib.hid h3; clear hR hD h1; go_simp; exact hK.out _ _ (Below.refl _ _) ⟨o, rfl, h2.out, h3.out⟩)); simp only [Act.put, List.setIfInBounds_toArray, List.set_cons_zero, List.set_cons_succ, Nat.reduceAdd, List.cons_append, List.nil_append])
  (apply Par.par_x rfl; (focus (intro w6 hR hD K hK; replace hK := Lib.hid hK; skip; clear hR hD; go_simp; exact hK.out _ (Below.refl _ _))); simp only [Act.put, List.setIfInBounds_toArray, List.set_cons_zero, List.set_cons_succ, Nat.reduceAdd, List.cons_append, List.nil_append])
  refine Par.par_end fun w6 hR hp => ?_
  obtain ⟨o, ho, hos, hoc⟩ : ∃ o, vals 19 = .iface 141 (.pointer (some ⟨o, 0, none⟩)) ∧ w.heap.size ≤ o ∧ CoordE w6 o n t := hp 19 (by simp)
  have hb6 : Below w.heap.size w w6 := (Below.refl w.heap.size w).drew.trans hR
  have hk := HH.out.below hb6
  obtain ⟨v0, wr, rfl⟩ : ∃ v r, ws = v :: r := by
    cases ws with
    | nil => exact absurd hk.2.2 (by simp)
    | cons v r => exact ⟨v, r, rfl⟩
  have c0 := cell_of_block hk.2.1 0 v0 (by simp)
  have fr := free_of_block hk.2.1 0
  clear hp hk
  simp only [ho]
  have HB6 := Lib.hid hb6
  have HOC := Lib.hid hoc
  clear hb6 hoc hR
  go_wp2
  go_end0
  exact ⟨o, w6, rfl, hos, HOC.out, HB6.out, rfl⟩

set_option maxHeartbeats 4000000 in
set_option maxRecDepth 100000 in
theorem start_shard (w : World) (c wa p n i : Nat) (hn : n ≤ 4) (hi0 : 1 ≤ i) (hin : i ≤ n) (mode : Int) (ta cu t : Nat) (ws : List Value) (h : CellB w c wa p n mode (.slice (some ⟨ta, 0, none⟩) (i + 1) cu) ws)
    (ht0 : w.cell? ⟨ta, i, none⟩ = some (.pointer (some ⟨t, 0, none⟩))) (ht : TapeE w t) :
    Calls Tryz.prog 55 #[.pointer (some ⟨c, 0, none⟩), .int .i64 i] w fun e w' => ∃ o w1, e = .returned (.tuple #[]) ∧ w.heap.size ≤ o ∧ ShardE w1 o i mode t ∧ Below w.heap.size w w1 ∧ w' = w1.setCell ⟨wa, i, none⟩ (.iface 145 (.pointer (some ⟨o, 0, none⟩))) := by
  go_enter Tryz.func55, Tryz.ntmps55
  have HH := Lib.hid h
  have hfacts : ∀ w6, Below w.heap.size w.drew w6 → w6.cell? ⟨c, 0, none⟩ = some (.int .i64 mode) ∧ w6.cell? ⟨c, 1, none⟩ = some (.slice (some ⟨ta, 0, none⟩) (i + 1) cu) ∧ w6.cell? ⟨c, 2, none⟩ = some (.slice (some ⟨wa, 0, none⟩) (n + 1) (n + 1)) ∧ w6.cell? ⟨ta, i, none⟩ = some (.pointer (some ⟨t, 0, none⟩)) ∧ TapeE w6 t := fun w6 hb => by
    have hb' : Below w.heap.size w w6 := (Below.refl w.heap.size w).drew.trans hb
    have k := (h.below hb').1
    exact ⟨cell_of_block k 0 _ rfl, cell_of_block k 1 _ rfl, cell_of_block k 2 _ rfl, cell_below ht0 hb', ht.below hb'⟩
  have HF := Lib.hid hfacts
  have hi1 : ¬ (i : Int) = 0 := by omega
  have hi2 : ((i : Int) == 0) = false := beq_eq_false_iff_ne.2 hi1
  have hi3 : (i : Int) < (i : Int) + 1 := by omega
  have hi4 : (i : Int) < (n : Int) + 1 := by omega
  have hi5 : (0 : Int) ≤ i := by omega
  clear hfacts h ht0 ht
  go_upto_region 2 with fail
  refine' Par.wp_region_pars (fun w w' => Below w.heap.size w w') 20 (by kernel_rfl) (by kernel_rfl) (by kernel_rfl) (by kernel_rfl) (by kernel_rfl) (by kernel_rfl)
    (fun w => Below.refl _ w) (fun h k => below_call h k) (fun vals => ?_)
  rotate_left
  simp only [List.take_succ_cons, List.take_zero, List.drop_succ_cons, List.drop_zero]
  iterate 3 (apply Par.par_x rfl; (focus (intro w6 hR hD K hK; replace hK := Lib.hid hK; skip; clear hR hD; go_simp; exact hK.out _ (Below.refl _ _))); simp only [Act.put, List.setIfInBounds_toArray, List.set_cons_zero, List.set_cons_succ, Nat.reduceAdd, List.cons_append, List.nil_append])
  (apply Par.par_x rfl; (focus (intro w6 hR hD K hK; replace hK := Lib.hid hK; obtain ⟨e0, e1, e2, e3, _⟩ := HF.out w6 hR; clear hR hD; go_simp; exact hK.out _ (Below.refl _ _))); simp only [Act.put, List.setIfInBounds_toArray, List.set_cons_zero, List.set_cons_succ, Nat.reduceAdd, List.cons_append, List.nil_append])
  iterate 5 (apply Par.par_x rfl; (focus (intro w6 hR hD K hK; replace hK := Lib.hid hK; skip; clear hR hD; go_simp; exact hK.out _ (Below.refl _ _))); simp only [Act.put, List.setIfInBounds_toArray, List.set_cons_zero, List.set_cons_succ, Nat.reduceAdd, List.cons_append, List.nil_append])
  (apply Par.par_x rfl; (focus (intro w6 hR hD K hK; replace hK := Lib.hid hK; obtain ⟨e0, e1, e2, e3, _⟩ := HF.out w6 hR; clear hR hD; go_simp; exact hK.out _ (Below.refl _ _))); simp only [Act.put, List.setIfInBounds_toArray, List.set_cons_zero, List.set_cons_succ, Nat.reduceAdd, List.cons_append, List.nil_append])
  iterate 3 (apply Par.par_x rfl; (focus (intro w6 hR hD K hK; replace hK := Lib.hid hK; skip; clear hR hD; go_simp; exact hK.out _ (Below.refl _ _))); simp only [Act.put, List.setIfInBounds_toArray, List.set_cons_zero, List.set_cons_succ, Nat.reduceAdd, List.cons_append, List.nil_append])
  (apply Par.par_x rfl; (focus (intro w6 hR hD K hK; replace hK := Lib.hid hK; obtain ⟨e0, e1, e2, e3, _⟩ := HF.out w6 hR; clear hR hD; go_simp; exact hK.out _ (Below.refl _ _))); simp only [Act.put, List.setIfInBounds_toArray, List.set_cons_zero, List.set_cons_succ, Nat.reduceAdd, List.cons_append, List.nil_append])
  iterate 2 (apply Par.par_x rfl; (focus (intro w6 hR hD K hK; replace hK := Lib.hid hK; skip; clear hR hD; go_simp; exact hK.out _ (Below.refl _ _))); simp only [Act.put, List.setIfInBounds_toArray, List.set_cons_zero, List.set_cons_succ, Nat.reduceAdd, List.cons_append, List.nil_append])
  (apply Par.par_x rfl; (focus (intro w6 hR hD K hK; replace hK := Lib.hid hK; obtain ⟨e0, e1, e2, e3, _⟩ := HF.out w6 hR; clear hR hD; go_simp; exact hK.out _ (Below.refl _ _))); simp only [Act.put, List.setIfInBounds_toArray, List.set_cons_zero, List.set_cons_succ, Nat.reduceAdd, List.cons_append, List.nil_append])
  (apply Par.par_r (fun v w' => ∃ o, v = .pointer (some ⟨o, 0, none⟩) ∧ w.heap.size ≤ o ∧ ShardE w' o i mode t) rfl (fun v w1 w2 h k => by obtain ⟨o, h1, h2, h3⟩ := h; exact ⟨o, h1, h2, h3.below k⟩); (focus (intro w6 hR hD K hK; replace hK := Lib.hid hK; obtain ⟨e0, e1, e2, e3, e4⟩ := HF.out w6 hR; have hs := Lib.hid (hR : Below w.heap.size w.drew w6).size; clear hR hD e0 e1 e2 e3; go_simp; refine (shard_new i mode w6 t e4).mono ?_; rintro e w7 ⟨o, rfl, ho, hc, hb⟩; exact hK.out _ _ hb ⟨o, rfl, Nat.le_trans hs.out ho, hc⟩)); simp only [Act.put, List.setIfInBounds_toArray, List.set_cons_zero, List.set_cons_succ, Nat.reduceAdd, List.cons_append, List.nil_append])
  (apply Par.par_r (fun v w' => ∃ o, v = .iface 145 (.pointer (some ⟨o, 0, none⟩)) ∧ w.heap.size ≤ o ∧ ShardE w' o i mode t) rfl (fun v w1 w2 h k => by obtain ⟨o, h1, h2, h3⟩ := h; exact ⟨o, h1, h2, h3.below k⟩); (focus (intro w6 hR hD K hK; replace hK := Lib.hid hK; obtain ⟨o, h1, h2, h3⟩ : ∃ o, vals 17 = .pointer (some ⟨o, 0, none⟩) ∧ w.heap.size ≤ o ∧ ShardE w6 o i mode t := hD 17 (by kernel_rfl); simp only [h1] at hK ⊢; replace h2 := Lib.hid h2; replace h3 := Lib.hid h3; clear hR hD h1; go_simp; exact hK.out _ _ (Below.refl _ _) ⟨o, rfl, h2.out, h3.out⟩)); simp only [Act.put, List.setIfInBounds_toArray, List.set_cons_zero, List.set_cons_succ, Nat.reduceAdd, List.cons_append, List.nil_append])
  (apply Par.par_x rfl; (focus (intro w6 hR hD K hK; replace hK := Lib.hid hK; skip; clear hR hD; go_simp; exact hK.out _ (Below.refl _ _))); simp only [Act.put, List.setIfInBounds_toArray, List.set_cons_zero, List.set_cons_succ, Nat.reduceAdd, List.cons_append, List.nil_append])
  refine Par.par_end fun w6 hR hp => ?_
  obtain ⟨o, ho, hos, hoc⟩ : ∃ o, vals 18 = .iface 145 (.pointer (some ⟨o, 0, none⟩)) ∧ w.heap.size ≤ o ∧ ShardE w6 o i mode t := hp 18 (by simp)
  have hb6 : Below w.heap.size w w6 := (Below.refl w.heap.size w).drew.trans hR
  have hk := HH.out.below hb6
  obtain ⟨v0, c0⟩ : ∃ v0, w6.cell? ⟨wa, i, none⟩ = some v0 := ⟨_, cell_of_block hk.2.1 i (ws[i]'(by rw [hk.2.2]; omega)) (by simp)⟩
  have fr := free_of_block hk.2.1 i
  clear hp hk
  simp only [ho]
  have HB6 := Lib.hid hb6
  have HOC := Lib.hid hoc
  clear hb6 hoc hR
  go_wp2
  go_end0
  exact ⟨o, w6, rfl, hos, HOC.out, HB6.out, rfl⟩
end Go.Proofs.YtikamehjeaoilaaGreatDoor
/-! A cell made anew. -/
set_option linter.unusedVariables false
set_option linter.unusedSimpArgs false
namespace Go.Proofs.YtikamehjeaoilaaGreatDoor
open Go.RowKit

theorem elt_tapes : Elt Tryz.prog 98 101 1 8 := elt_of Tryz.underlying98 (by decide) (by decide) (by kernel_rfl)
theorem wp_appends {P : Program} {w : World} {o : Oper} {a : Act} {K : Act → World → Prop} {Q : Exit → Act → World → Prop} {t e : TypeId} {size bytes : Nat} (hE : Elt P t e size bytes) (s x : Operand)
    (ho : o.op = .call { callee := .builtin .append, args := #[s, x], argTypes := #[t, t] }) {v : Value} {n m base c : Nat} {ad : Addr} {xs news : List Value} (hs : a.eval s = v) (hx : a.eval x = .slice (some ad) m c)
    (hown : w.ownsRow base e size v n xs) (hl : news.length = m * size) (hnews : ∀ j u, news[j]? = some u → w.cell? (ad.add j) = some u) (h1 : ∀ u ∈ news, u.oneCell' = true) (hn : n + m ≤ 1099511627776) (hbase : base ≤ w.heap.size)
    (h : ∀ v' w', w'.ownsRow base e size v' (n + m) (xs ++ news) → w.grownBy w' v.ownBlock → K (a.put o.dst v') w') : o.wp P a w K Q := by
  obtain ⟨q1, q2, q3, i, z, q4, q5, q6, q7, q8⟩ := hE
  have hbb : (n + m) * bytes ≤ 1099511627776 * 128 := Nat.mul_le_mul hn q3
  exact wp_append_own w s x t ho base e i z size bytes q1 q4 q5 q6 q7 q8 q2 v n xs hs hown ad m c news hx hl hnews h1 (by unfold maxLen; omega) (by omega) hbase fun v' w' a b _ => h v' w' a b
theorem grown_below {w w' : World} (row : Option Nat) (h : Below w.heap.size w w') : w.grownBy w' row := ⟨h.os, h.tape, h.output, h.size, fun k hk _ => h.block k hk⟩
theorem grown_trans {a b c : World} {row : Option Nat} (h : a.grownBy b row) (k : b.grownBy c row) : a.grownBy c row :=
  ⟨k.os.trans h.os, k.tape.trans h.tape, k.output.trans h.output, Nat.le_trans h.size k.size, fun j hj hne => (k.block j (Nat.lt_of_lt_of_le hj h.size) hne).trans (h.block j hj hne)⟩
theorem set_far {w : World} {a : Addr} {v : Value} {k : Nat} (h : k ≠ a.block) : (w.setCell a v).heap[k]? = w.heap[k]? := by
  exact Below.heap_setCell _ _ _ _ h

/-- A participant that was started. -/
def One (w : World) (n : Nat) (mode : Int) (i t : Nat) (v : Value) : Prop :=
  ∃ o, (i = 0 ∧ v = .iface 141 (.pointer (some ⟨o, 0, none⟩)) ∧ CoordE w o n t) ∨ (0 < i ∧ v = .iface 145 (.pointer (some ⟨o, 0, none⟩)) ∧ ShardE w o i mode t)
/-- All stands but rows of tapes, rows of participants, and cells. -/
def Kp (w w' : World) : Prop := ∀ (g : Nat) (o : Obj), w.heap[g]? = some o → (∀ cs, o ≠ .cells cs 101 (0, 0)) → (∀ cs, o ≠ .cells cs 144 (0, 0)) → (∀ cs, o ≠ .cells cs 100 (0, 0)) → w'.heap[g]? = some o
theorem Kp.trans {a b c : World} (h : Kp a b) (k : Kp b c) : Kp a c := fun g o hg h1 h2 h3 => k g o (h g o hg h1 h2 h3) h1 h2 h3
theorem Kp.of_below {w w' : World} (h : Below w.heap.size w w') : Kp w w' := fun g o hg _ _ _ => block_below hg h
theorem Kp.of_far {w w' : World} {c : Nat} {cs : Array Value} {T : TypeId} (hc : w.heap[c]? = some (.cells cs T (0, 0))) (hT : T = 101 ∨ T = 144 ∨ T = 100) (h : ∀ k, k < w.heap.size → k ≠ c → w'.heap[k]? = w.heap[k]?) : Kp w w' := fun g o hg h1 h2 h3 => by
  by_cases e : g = c
  · subst e
    rw [hc] at hg
    injection hg with hg
    rcases hT with rfl | rfl | rfl
    · exact absurd hg.symm (h1 cs)
    · exact absurd hg.symm (h2 cs)
    · exact absurd hg.symm (h3 cs)
  · exact (h g (Array.getElem?_eq_some_iff.1 hg).1 e).trans hg
theorem own_block {w : World} {base n size : Nat} {e : TypeId} {v : Value} {xs : List Value} (h : w.ownsRow base e size v n xs) {g : Nat} (hg : v.ownBlock = some g) : ∃ cs, w.heap[g]? = some (.cells cs e (0, 0)) := by
  rcases h.2 with h | ⟨g', cap', cur, e1, _, hh, _⟩
  · obtain ⟨rfl, _⟩ := h
    cases hg
  · subst e1
    obtain rfl : g' = g := by injection hg
    exact ⟨_, hh⟩
theorem own_ne {w : World} {base n size g : Nat} {e e' : TypeId} {v : Value} {xs : List Value} {cs : Array Value} (h : w.ownsRow base e size v n xs) (hg : w.heap[g]? = some (.cells cs e' (0, 0))) (hne : e ≠ e') : v.ownBlock ≠ some g := fun hv => by
  obtain ⟨ds, hd⟩ := own_block h hv
  rw [hd] at hg
  injection hg with hg
  injection hg with _ hg
  exact hne hg
theorem Kp.of_grown {w w' : World} {base n : Nat} {v : Value} {xs : List Value} (h : w.ownsRow base 101 1 v n xs) (hg : w.grownBy w' v.ownBlock) : Kp w w' := by
  by_cases hv : v.ownBlock = none
  · intro g o hgo _ _ _
    exact (hg.block g (Array.getElem?_eq_some_iff.1 hgo).1 (by rw [hv]; simp)).trans hgo
  · obtain ⟨g, hg'⟩ := Option.ne_none_iff_exists'.1 hv
    obtain ⟨cs, hcs⟩ := own_block h hg'
    exact Kp.of_far hcs (.inl rfl) fun k hk hne => hg.block k hk (by rw [hg']; simpa using hne)
theorem TapeE.kp {w w' : World} {b : Nat} (h : TapeE w b) (k : Kp w w') : TapeE w' b := k b _ h (by simp) (by simp) (by simp)
theorem MapE.kp {w w' : World} {b : Nat} (h : MapE w b) (k : Kp w w') : MapE w' b := k b _ h (by simp) (by simp) (by simp)
theorem CoordE.kp {w w' : World} {c t : Nat} {n : Int} (h : CoordE w c n t) (k : Kp w w') : CoordE w' c n t := by
  obtain ⟨m, h1, h2⟩ := h
  exact ⟨m, k _ _ h1 (by simp) (by simp) (by simp), h2.kp k⟩
theorem LedgerE.kp {w w' : World} {l : Nat} (h : LedgerE w l) (k : Kp w w') : LedgerE w' l := by
  obtain ⟨a, b, h1, h2, h3⟩ := h
  exact ⟨a, b, k _ _ h1 (by simp) (by simp) (by simp), h2.kp k, h3.kp k⟩
theorem ShardE.kp {w w' : World} {c t : Nat} {me mode : Int} (h : ShardE w c me mode t) (k : Kp w w') : ShardE w' c me mode t := by
  obtain ⟨l, m, h1, h2, h3⟩ := h
  exact ⟨l, m, k _ _ h1 (by simp) (by simp) (by simp), h2.kp k, h3.kp k⟩
theorem PostE.kp {w w' : World} {p : Nat} (h : PostE w p) (k : Kp w w') : PostE w' p := by
  obtain ⟨r, h1, h2⟩ := h
  exact ⟨r, k _ _ h1 (by simp) (by simp) (by simp), k _ _ h2 (by simp) (by simp) (by simp)⟩
theorem One.kp {w w' : World} {n i t : Nat} {mode : Int} {v : Value} (h : One w n mode i t v) (k : Kp w w') : One w' n mode i t v := by
  obtain ⟨o, h⟩ := h
  exact ⟨o, h.imp (fun h => ⟨h.1, h.2.1, h.2.2.kp k⟩) (fun h => ⟨h.1, h.2.1, h.2.2.kp k⟩)⟩
theorem own_setC {w : World} {base n size c j : Nat} {e e' : TypeId} {v u : Value} {xs : List Value} {cs : Array Value} (h : w.ownsRow base e size v n xs) (hc : w.heap[c]? = some (.cells cs e' (0, 0))) (hne : e ≠ e') : (w.setCell ⟨c, j, none⟩ u).ownsRow base e size v n xs :=
  own_same h fun g ds hg _ => set_far fun (eg : g = c) => by
    subst eg
    rw [hc] at hg
    injection hg with hg
    injection hg with _ hg
    exact hne hg.symm
def tapesV (ts : List Nat) : List Value := ts.map fun t => .pointer (some ⟨t, 0, none⟩)
/-- A cell of which k participants were started. -/
def CellK (B : Nat) (w : World) (c wa p n : Nat) (mode : Int) (k : Nat) (ts : List Nat) : Prop :=
  ∃ u ws, CellB w c wa p n mode u ws ∧ B ≤ c ∧ B ≤ wa ∧ PostE w p ∧ ts.length = k ∧ w.ownsRow B 101 1 u k (tapesV ts) ∧ ∀ i, i < k → TapeE w (ts.getD i 0) ∧ One w n mode i (ts.getD i 0) (ws.getD i .nilIface)
theorem start_any (w : World) (c wa p n k : Nat) (hn : n ≤ 4) (hk : k ≤ n) (mode : Int) (ta cu t : Nat) (ws : List Value) (h : CellB w c wa p n mode (.slice (some ⟨ta, 0, none⟩) (k + 1) cu) ws)
    (ht0 : w.cell? ⟨ta, k, none⟩ = some (.pointer (some ⟨t, 0, none⟩))) (ht : TapeE w t) :
    Calls Tryz.prog 55 #[.pointer (some ⟨c, 0, none⟩), .int .i64 k] w fun e w' => ∃ v w1, e = .returned (.tuple #[]) ∧ One w1 n mode k t v ∧ Below w.heap.size w w1 ∧ w' = w1.setCell ⟨wa, k, none⟩ v := by
  by_cases hk0 : k = 0
  · subst hk0
    refine Calls.mono (start_coord w c wa p n hn mode ta 0 cu t ws h ht0 (World.block_lt_of_cell? w _ ht0) ht) ?_
    rintro e w' ⟨o, w1, h1, _, h3, h4, h5⟩
    exact ⟨_, w1, h1, ⟨o, .inl ⟨rfl, rfl, h3⟩⟩, h4, h5⟩
  · refine Calls.mono (start_shard w c wa p n k hn (by omega) hk mode ta cu t ws h ht0 ht) ?_
    rintro e w' ⟨o, w1, h1, _, h3, h4, h5⟩
    exact ⟨_, w1, h1, ⟨o, .inr ⟨by omega, rfl, h3⟩⟩, h4, h5⟩
theorem mk_ones (n : Nat) (hn : n ≤ 4) (w : World) : (Instr.makeSlice 95 (.int .i64 ((n : Int) + 1)) (.int .i64 ((n : Int) + 1))).run Tryz.prog w = .ok (.slice (some ⟨w.heap.size, 0, none⟩) (n + 1) (n + 1)) (w.alloc (.cells (List.replicate (n + 1) (.nilIface)).toArray 144)) := by
  rcases (by omega : n = 0 ∨ n = 1 ∨ n = 2 ∨ n = 3 ∨ n = 4) with rfl | rfl | rfl | rfl | rfl <;> kernel_rfl

set_option maxHeartbeats 4000000 in
set_option maxRecDepth 100000 in
theorem cell_new (n : Nat) (hn0 : 1 ≤ n) (hn : n ≤ 4) (mode : Int) (hm0 : 0 ≤ mode) (hm : mode ≤ 2) (w : World) : Calls Tryz.prog 28 #[.int .i64 n, .int .i64 mode] w fun e w' => ∃ c wa p ts, e = .returned (.tuple #[.pointer (some ⟨c, 0, none⟩), .int .i64 0]) ∧ CellK w.heap.size w' c wa p n mode (n + 1) ts ∧ Below w.heap.size w w' := by
  have hmk := mk_ones n hn
  have h1 : ¬ (n : Int) < 1 := by omega
  have h2 : ¬ (n : Int) > 4 := by omega
  have h3 : ¬ mode < 0 := by omega
  have h4 : ¬ mode > 2 := by omega
  have h5 : IntKind.i64.wrap ((n : Int) + 1) = n + 1 := IntWalk.i64_in _ (by omega)
  go_enter Tryz.func28, Tryz.ntmps28
  go_upto_region 3 with fail
  have HMK := Lib.hid hmk
  clear hmk
  refine' Par.wp_region_pars (fun w w' => Below w.heap.size w w') 7 (by kernel_rfl) (by kernel_rfl) (by kernel_rfl) (by kernel_rfl) (by kernel_rfl) (by kernel_rfl)
    (fun w => Below.refl _ w) (fun h k => below_call h k) (fun vals => ?_)
  rotate_left
  simp only [List.take_succ_cons, List.take_zero, List.drop_succ_cons, List.drop_zero]
  iterate 3 (apply Par.par_x rfl; (focus (intro w6 hR hD K hK; replace hK := Lib.hid hK; skip; clear hR hD; go_simp; exact hK.out _ (Below.refl _ _))); simp only [Act.put, List.setIfInBounds_toArray, List.set_cons_zero, List.set_cons_succ, Nat.reduceAdd, List.cons_append, List.nil_append])
  (apply Par.par_r (fun v w' => ∃ g, v = .slice (some ⟨g, 0, none⟩) (n + 1) (n + 1) ∧ w.heap.size ≤ g ∧ w'.heap[g]? = some (.cells (List.replicate (n + 1) .nilIface).toArray 144 (0, 0))) rfl (fun v w1 w2 h k => by obtain ⟨g, h1, h2, h3⟩ := h; exact ⟨g, h1, h2, block_below h3 k⟩); (focus (intro w6 hR hD K hK; replace hK := Lib.hid hK; have hmk := HMK.out w6; have hs := Lib.hid (hR : Below w.heap.size w.drew w6).size; clear hR hD; go_simp; exact hK.out _ _ (below_alloc' (Below.refl _ _) _) ⟨_, rfl, hs.out, alloc_at _ _⟩)); simp only [Act.put, List.setIfInBounds_toArray, List.set_cons_zero, List.set_cons_succ, Nat.reduceAdd, List.cons_append, List.nil_append])
  (apply Par.par_r (fun v w' => ∃ p, v = .pointer (some ⟨p, 0, none⟩) ∧ w.heap.size ≤ p ∧ PostE w' p) rfl (fun v w1 w2 h k => by obtain ⟨o, h1, h2, h3⟩ := h; exact ⟨o, h1, h2, h3.below k⟩); (focus (intro w6 hR hD K hK; replace hK := Lib.hid hK; have hs := Lib.hid (hR : Below w.heap.size w.drew w6).size; clear hR hD; go_simp; refine (post_new w6).mono ?_; rintro e w7 ⟨o, rfl, ho, hc, hb⟩; exact hK.out _ _ hb ⟨o, rfl, Nat.le_trans hs.out ho, hc⟩)); simp only [Act.put, List.setIfInBounds_toArray, List.set_cons_zero, List.set_cons_succ, Nat.reduceAdd, List.cons_append, List.nil_append])
  (apply Par.par_r (fun v w' => ∃ g p, v = .agg #[.int .i64 mode, .slice none 0 0, .slice (some ⟨g, 0, none⟩) (n + 1) (n + 1), .pointer (some ⟨p, 0, none⟩)] ∧ w.heap.size ≤ g ∧ w'.heap[g]? = some (.cells (List.replicate (n + 1) .nilIface).toArray 144 (0, 0)) ∧ w.heap.size ≤ p ∧ PostE w' p) rfl (fun v w1 w2 h k => by obtain ⟨g, p, h1, h2, h3, h4, h5⟩ := h; exact ⟨g, p, h1, h2, block_below h3 k, h4, h5.below k⟩); (focus (intro w6 hR hD K hK; replace hK := Lib.hid hK; obtain ⟨g, h1, h2, h3⟩ : ∃ g, vals 3 = .slice (some ⟨g, 0, none⟩) (n + 1) (n + 1) ∧ w.heap.size ≤ g ∧ w6.heap[g]? = some (.cells (List.replicate (n + 1) .nilIface).toArray 144 (0, 0)) := hD 3 (by kernel_rfl); obtain ⟨p, k1, k2, k3⟩ : ∃ p, vals 4 = .pointer (some ⟨p, 0, none⟩) ∧ w.heap.size ≤ p ∧ PostE w6 p := hD 4 (by kernel_rfl); simp only [h1, k1] at hK ⊢; replace h3 := Lib.hid h3; replace k3 := Lib.hid k3; clear hR hD h1 k1; go_simp; exact hK.out _ _ (Below.refl _ _) ⟨g, p, rfl, h2, h3.out, k2, k3.out⟩)); simp only [Act.put, List.setIfInBounds_toArray, List.set_cons_zero, List.set_cons_succ, Nat.reduceAdd, List.cons_append, List.nil_append])
  (apply Par.par_r (fun v w' => ∃ c g p, v = .pointer (some ⟨c, 0, none⟩) ∧ w.heap.size ≤ c ∧ w'.heap[c]? = some (.cells #[.int .i64 mode, .slice none 0 0, .slice (some ⟨g, 0, none⟩) (n + 1) (n + 1), .pointer (some ⟨p, 0, none⟩)] 100 (0, 0)) ∧ w.heap.size ≤ g ∧ w'.heap[g]? = some (.cells (List.replicate (n + 1) .nilIface).toArray 144 (0, 0)) ∧ w.heap.size ≤ p ∧ PostE w' p) rfl (fun v w1 w2 h k => by obtain ⟨c, g, p, h0, h1, h1', h2, h3, h4, h5⟩ := h; exact ⟨c, g, p, h0, h1, block_below h1' k, h2, block_below h3 k, h4, h5.below k⟩); (focus (intro w6 hR hD K hK; replace hK := Lib.hid hK; obtain ⟨g, p, e1, h2, h3, k2, k3⟩ : ∃ g p, vals 5 = .agg #[.int .i64 mode, .slice none 0 0, .slice (some ⟨g, 0, none⟩) (n + 1) (n + 1), .pointer (some ⟨p, 0, none⟩)] ∧ w.heap.size ≤ g ∧ w6.heap[g]? = some (.cells (List.replicate (n + 1) .nilIface).toArray 144 (0, 0)) ∧ w.heap.size ≤ p ∧ PostE w6 p := hD 5 (by kernel_rfl); have hs := Lib.hid (hR : Below w.heap.size w.drew w6).size; simp only [e1] at hK ⊢; replace h3 := Lib.hid h3; replace k3 := Lib.hid k3; clear hR hD e1; go_simp; exact hK.out _ _ (below_alloc' (Below.refl _ _) _) ⟨_, g, p, rfl, hs.out, alloc_at _ _, h2, alloc_old h3.out, k2, k3.out.below (below_alloc' (Below.refl _ _) _)⟩)); simp only [Act.put, List.setIfInBounds_toArray, List.set_cons_zero, List.set_cons_succ, Nat.reduceAdd, List.cons_append, List.nil_append])
  refine Par.par_end fun w6 hR hp => ?_
  obtain ⟨c, wa, p, e6, hc1, hc2, hw1, hw2, hp1, hp2⟩ : ∃ c g p, vals 6 = .pointer (some ⟨c, 0, none⟩) ∧ w.heap.size ≤ c ∧ w6.heap[c]? = some (.cells #[.int .i64 mode, .slice none 0 0, .slice (some ⟨g, 0, none⟩) (n + 1) (n + 1), .pointer (some ⟨p, 0, none⟩)] 100 (0, 0)) ∧ w.heap.size ≤ g ∧ w6.heap[g]? = some (.cells (List.replicate (n + 1) .nilIface).toArray 144 (0, 0)) ∧ w.heap.size ≤ p ∧ PostE w6 p := hp 6 (by simp)
  have hb6 : Below w.heap.size w w6 := (Below.refl w.heap.size w).drew.trans hR
  have HK6 : Hid (CellK w.heap.size w6 c wa p n mode 0 []) := Lib.hid ⟨_, _, ⟨hc2, hw2, by simp⟩, hc1, hw1, hp2, rfl, World.ownsRow_nil _ _ _ _, fun i hi => absurd hi (Nat.not_lt_zero _)⟩
  have c2 := cell_of_block hc2 2 _ rfl
  have HB6 := Lib.hid hb6
  simp only [e6]
  clear hp hR hb6 hc2 hw2 hp2 e6 HMK
  go_wp2_with fail
  go_loopw [7, 34] (fun _ x wr => ∃ k ts, x = .int .i64 (k : Nat) ∧ k ≤ n + 1 ∧ CellK w.heap.size wr c wa p n mode k ts ∧ Below w.heap.size w wr) (fun _ x _ => n + 1 - (intOf x).toNat)
  case atStart => exact ⟨0, [], rfl, Nat.zero_le _, HK6.out, HB6.out⟩
  case round =>
    obtain ⟨k, ts, rfl, hk, hck, hbr⟩ := hrel
    by_cases hkn : k = n + 1
    · have HCK := Lib.hid hck
      have HBR := Lib.hid hbr
      clear hck hbr hk
      subst hkn
      have hlt : ¬ ((n + 1 : Nat) : Int) < (n : Int) + 1 := by omega
      go_wp2_with fail
      go_ret2
      exact ⟨c, rfl, ⟨wa, p, ts, HCK.out⟩, HBR.out⟩
    · have hk' : k < n + 1 := by omega
      have hlt : (k : Int) < (n : Int) + 1 := by omega
      obtain ⟨u, ws, hcb, hBc, hBw, hpe, htl, hrow, hall⟩ := hck
      have hroff := own_ne hrow hcb.1 (by decide)
      have HCB := Lib.hid hcb
      have HROW := Lib.hid hrow
      have HNE := Lib.hid hroff
      have HBR := Lib.hid hbr
      have HPE := Lib.hid hpe
      have HALL := Lib.hid hall
      have hfacts : ∀ w6, wr.drew.grownBy w6 u.ownBlock → w6.cell? ⟨c, 1, none⟩ = some u := fun w6 h => cell_of_block (block_far h hcb.1 hroff) 1 _ rfl
      have HF := Lib.hid hfacts
      have hbw : w.heap.size ≤ wr.heap.size := hbr.size
      have hul : ∀ g, u.ownBlock = some g → g < wr.heap.size := fun g hg => (hrow.lt g hg).2
      have HUL := Lib.hid hul
      have HBW := Lib.hid hbw
      clear hcb hrow hroff hbr hpe hall hfacts hbw hul
      go_upto_region 7 with fail
      refine' Se.wp_region_pass (fun w w' => Below w.heap.size w w') (fun w w' => w.grownBy w' u.ownBlock) 10 (by kernel_rfl) (by kernel_rfl) (by kernel_rfl) (by kernel_rfl) (by kernel_rfl) (by kernel_rfl)
        (fun w => grown_below _ (Below.refl _ _)) (fun h k => grown_trans h k) [(fun w3 => w3.ownsRow w.heap.size 101 1 u k (tapesV ts), 7)] [] ?_ ?_ (by simp) (fun vals => ?_)
      case refine'_2 =>
        simp only [List.forall_mem_cons]
        exact ⟨own_drew HROW.out, by simp⟩
      case refine'_3 =>
        simp only [List.forall_mem_cons]
        exact ⟨fun w1 w2 k h => own_below h k, by simp⟩
      rotate_left
      simp only [List.take_succ_cons, List.take_zero, List.drop_succ_cons, List.drop_zero]
      iterate 4 (apply Se.pas_x (fun _ _ h => grown_below _ h) rfl; (focus rfl); (focus (intro w6 hR hD hP K hK; replace hK := Lib.hid hK; skip; clear hR hD hP; go_simp; exact hK.out _ (Below.refl _ _))); simp only [Act.put, List.setIfInBounds_toArray, List.set_cons_zero, List.set_cons_succ, Nat.reduceAdd, List.cons_append, List.nil_append])
      (apply Se.pas_x (fun _ _ h => grown_below _ h) rfl; (focus rfl); (focus (intro w6 hR hD hP K hK; replace hK := Lib.hid hK; have e0 := HF.out w6 hR; clear hR hD hP; go_simp; exact hK.out _ (Below.refl _ _))); simp only [Act.put, List.setIfInBounds_toArray, List.set_cons_zero, List.set_cons_succ, Nat.reduceAdd, List.cons_append, List.nil_append])
      (apply Se.pas_r (fun v w' => ∃ b, v = .pointer (some ⟨b, 0, none⟩) ∧ u.ownBlock ≠ some b ∧ TapeE w' b) (fun _ _ h => grown_below _ h) rfl (fun v w1 w2 h k => by obtain ⟨b, h1, h2, h3⟩ := h; exact ⟨b, h1, h2, h3.below k⟩); (focus rfl); (focus (intro w6 hR hD hP K hK; replace hK := Lib.hid hK; have hs := Lib.hid (hR : wr.drew.grownBy w6 u.ownBlock).size; clear hR hD hP; go_simp; refine (tape_new w6).mono ?_; rintro e w7 ⟨b, rfl, hb1, hb2, hb3⟩; exact hK.out _ _ hb3 ⟨b, rfl, fun e => by have h1 := HUL.out b e; have h2 : wr.heap.size ≤ w6.heap.size := hs.out; omega, hb2⟩)); simp only [Act.put, List.setIfInBounds_toArray, List.set_cons_zero, List.set_cons_succ, Nat.reduceAdd, List.cons_append, List.nil_append])
      (apply Se.pas_r (fun v w' => ∃ g b, v = .slice (some ⟨g, 0, none⟩) 1 1 ∧ u.ownBlock ≠ some b ∧ u.ownBlock ≠ some g ∧ TapeE w' b ∧ w'.heap[g]? = some (.cells #[.pointer (some ⟨b, 0, none⟩)] 101 (0, 0))) (fun _ _ h => grown_below _ h) rfl (fun v w1 w2 h k => by obtain ⟨g, b, h1, h2, h3, h4, h5⟩ := h; exact ⟨g, b, h1, h2, h3, h4.below k, block_below h5 k⟩); (focus rfl); (focus (intro w6 hR hD hP K hK; replace hK := Lib.hid hK; obtain ⟨b, h1, h2, h3⟩ : ∃ b, vals 5 = .pointer (some ⟨b, 0, none⟩) ∧ u.ownBlock ≠ some b ∧ TapeE w6 b := hD 5 (by kernel_rfl); have hs := Lib.hid (hR : wr.drew.grownBy w6 u.ownBlock).size; simp only [h1] at hK ⊢; replace h3 := Lib.hid h3; clear hR hD hP h1; go_simp; exact hK.out _ _ (below_alloc' (Below.refl _ _) _) ⟨_, b, rfl, h2, fun e => by have h1 := HUL.out _ e; have h2 : wr.heap.size ≤ w6.heap.size := hs.out; omega, h3.out.below (below_alloc' (Below.refl _ _) _), alloc_at _ _⟩)); simp only [Act.put, List.setIfInBounds_toArray, List.set_cons_zero, List.set_cons_succ, Nat.reduceAdd, List.cons_append, List.nil_append])
      (apply Se.pas_s (fun w w' => w.grownBy w' u.ownBlock) (fun v w' => ∃ b, TapeE w' b ∧ w'.ownsRow w.heap.size 101 1 v (k + 1) (tapesV ts ++ [Value.pointer (some ⟨b, 0, none⟩)])) (fun _ _ h => h) rfl (fun v w1 w2 h k => by obtain ⟨b, h1, h2⟩ := h; exact ⟨b, h1.below k, own_below h2 k⟩); (focus rfl); (focus (intro w6 hR hD hP K hK; replace hK := Lib.hid hK; obtain ⟨g, b, e6, h2, h3, h4, h5⟩ : ∃ g b, vals 6 = .slice (some ⟨g, 0, none⟩) 1 1 ∧ u.ownBlock ≠ some b ∧ u.ownBlock ≠ some g ∧ TapeE w6 b ∧ w6.heap[g]? = some (.cells #[.pointer (some ⟨b, 0, none⟩)] 101 (0, 0)) := hD 6 (by kernel_rfl); have hown := hP _ (List.mem_cons_self ..) (.inl rfl); have hsz : wr.heap.size ≤ w6.heap.size := (hR : wr.drew.grownBy w6 u.ownBlock).size; clear hD hP hR; simp only [e6] at hK ⊢; exact wp_appends elt_tapes (.tmp 41) (.tmp 43) rfl (v := u) (n := k) (m := 1) (c := 1) (ad := ⟨g, 0, none⟩) (news := [.pointer (some ⟨b, 0, none⟩)]) rfl rfl hown rfl (news_row h5) (by simp [Value.oneCell']) (by omega) (Nat.le_trans HBW.out hsz) (fun v' w' q1 q2 => hK.out _ _ q2 ⟨b, block_far q2 h4 h2, q1⟩))); simp only [Act.put, List.setIfInBounds_toArray, List.set_cons_zero, List.set_cons_succ, Nat.reduceAdd, List.cons_append, List.nil_append])
      iterate 2 (apply Se.pas_x (fun _ _ h => grown_below _ h) rfl; (focus rfl); (focus (intro w6 hR hD hP K hK; replace hK := Lib.hid hK; skip; clear hR hD hP; go_simp; exact hK.out _ (Below.refl _ _))); simp only [Act.put, List.setIfInBounds_toArray, List.set_cons_zero, List.set_cons_succ, Nat.reduceAdd, List.cons_append, List.nil_append])
      refine Se.pas_ends ?_ ?_ fun w6 hR hp _ => ?_
      · simp only [Se.AllK, true_and, and_true, true_or, or_true, Nat.reduceAdd]
        refine ⟨.inr (.inr ?_), .inr (.inr ?_)⟩
        · intro v w1 w2 _ hg h
          obtain ⟨b, h1, h2, h3⟩ := h
          exact ⟨b, h1, h2, block_far hg h3 h2⟩
        · intro v w1 w2 _ hg h
          obtain ⟨g, b, h1, h2, h3, h4, h5⟩ := h
          exact ⟨g, b, h1, h2, h3, block_far hg h4 h2, block_far hg h5 h3⟩
      · simp only [Se.AllK, true_and, and_true, Nat.reduceAdd]
        intro e he
        simp only [List.mem_cons, List.not_mem_nil, or_false] at he
        subst he
        exact .inl rfl
      obtain ⟨b, hbt, hbo⟩ : ∃ b, TapeE w6 b ∧ w6.ownsRow w.heap.size 101 1 (vals 7) (k + 1) (tapesV ts ++ [Value.pointer (some ⟨b, 0, none⟩)]) := hp 7 (by simp)
      obtain ⟨ta, cu, e7, hta, _⟩ := (own_forms hbo).resolve_left (by rintro ⟨_, h, _⟩; omega)
      rw [e7] at hbo
      have hg6 : wr.grownBy w6 u.ownBlock := grown_trans (grown_below _ (Below.refl wr.heap.size wr).drew) hR
      have hc6 := block_far hg6 HCB.out.1 HNE.out
      have hw6 := block_far hg6 HCB.out.2.1 (own_ne HROW.out HCB.out.2.1 (by decide))
      have hkp6 : Kp wr w6 := Kp.of_grown HROW.out hg6
      have hb6 : Below w.heap.size w w6 := HBR.out.trans ⟨hg6.os, hg6.tape, hg6.output, hg6.size, fun j hj => hg6.block j (Nat.lt_of_lt_of_le hj HBW.out) (fun e => by have := (HROW.out.lt j (by first | exact e | exact e.symm)).1; omega)⟩
      have e0 := cell_of_block hc6 1 _ rfl
      have fr := free_of_block hc6 1
      simp only [e7]
      have HBO := Lib.hid hbo
      have HBT := Lib.hid hbt
      have HC6 := Lib.hid hc6
      have HW6 := Lib.hid hw6
      have HKP := Lib.hid hkp6
      have HB6 := Lib.hid hb6
      clear hp hR hbo hbt hg6 hc6 hw6 hkp6 hb6 e7
      go_wp2_with fail
      have hwc : wa ≠ c := fun e => by
        have h1 := HC6.out
        rw [← e, HW6.out] at h1
        injection h1 with h1
        injection h1 with _ h1
        exact absurd h1 (by decide)
      have hC7 : (w6.setCell ⟨c, 1, none⟩ (.slice (some ⟨ta, 0, none⟩) (k + 1) cu)).heap[c]? = some (.cells #[.int .i64 mode, .slice (some ⟨ta, 0, none⟩) (k + 1) cu, .slice (some ⟨wa, 0, none⟩) (n + 1) (n + 1), .pointer (some ⟨p, 0, none⟩)] 100 (0, 0)) := heap_setCell_same _ _ _ _ _ _ HC6.out
      have hW7 : (w6.setCell ⟨c, 1, none⟩ (.slice (some ⟨ta, 0, none⟩) (k + 1) cu)).heap[wa]? = some (.cells ws.toArray 144 (0, 0)) := (set_far hwc).trans HW6.out
      have hrow7 := own_setC (j := 1) (u := .slice (some ⟨ta, 0, none⟩) (k + 1) cu) HBO.out HC6.out (by decide)
      have hkp7 : Kp wr (w6.setCell ⟨c, 1, none⟩ (.slice (some ⟨ta, 0, none⟩) (k + 1) cu)) := HKP.out.trans (Kp.of_far HC6.out (.inr (.inr rfl)) fun j _ hne => set_far hne)
      have hbt7 : TapeE (w6.setCell ⟨c, 1, none⟩ (.slice (some ⟨ta, 0, none⟩) (k + 1) cu)) b := HBT.out.kp (Kp.of_far HC6.out (.inr (.inr rfl)) fun j _ hne => set_far hne)
      have hb7 : Below w.heap.size w (w6.setCell ⟨c, 1, none⟩ (.slice (some ⟨ta, 0, none⟩) (k + 1) cu)) := HB6.out.setCell (p := ⟨c, 1, none⟩) hBc _
      generalize World.setCell w6 _ _ = w7 at hC7 hW7 hrow7 hkp7 hbt7 hb7 ⊢
      have ht0 : w7.cell? ⟨ta, k, none⟩ = some (.pointer (some ⟨b, 0, none⟩)) := by
        rw [hrow7.cellAt k (by omega)]
        simp [tapesV, htl]
      have hcb7 : CellB w7 c wa p n mode (.slice (some ⟨ta, 0, none⟩) (k + 1) cu) ws := ⟨hC7, hW7, HCB.out.2.2⟩
      refine (start_any w7 c wa p n k hn (by omega) mode ta cu b ws hcb7 ht0 hbt7).mono ?_
      rintro e w9 ⟨v, w8, rfl, hone, hb8, rfl⟩
      have hcb8 := hcb7.below hb8
      have hcell : (w8.setCell ⟨wa, k, none⟩ v).heap[wa]? = some (.cells (ws.set k v).toArray 144 (0, 0)) := by
        have := heap_setCell_same w8 wa k _ _ v hcb8.2.1
        rwa [List.setIfInBounds_toArray] at this
      have hkpS : Kp w8 (w8.setCell ⟨wa, k, none⟩ v) := Kp.of_far hcb8.2.1 (.inr (.inl rfl)) fun j _ hne => set_far hne
      have hkp9 : Kp wr (w8.setCell ⟨wa, k, none⟩ v) := (hkp7.trans (Kp.of_below hb8)).trans hkpS
      have HCK : Hid (CellK w.heap.size (w8.setCell ⟨wa, k, none⟩ v) c wa p n mode (k + 1) (ts ++ [b])) := Lib.hid (by
        refine ⟨_, ws.set k v, ⟨(set_far hwc.symm).trans hcb8.1, hcell, by rw [List.length_set]; exact hcb8.2.2⟩, hBc, hBw, HPE.out.kp hkp9, by simp [htl], ?_, fun i hi => ?_⟩
        · have := own_setC (j := k) (u := v) (own_below hrow7 hb8) hcb8.2.1 (by decide)
          simpa [tapesV] using this
        · by_cases hik : i = k
          · subst hik
            rw [show (ts ++ [b]).getD i 0 = b by simp [List.getD_eq_getElem?_getD, ← htl], show (ws.set i v).getD i .nilIface = v by simp [List.getD_eq_getElem?_getD, hcb8.2.2, hk']]
            exact ⟨(hbt7.below hb8).kp hkpS, hone.kp hkpS⟩
          · have hi' : i < k := by omega
            rw [show (ts ++ [b]).getD i 0 = ts.getD i 0 by simp [List.getD_eq_getElem?_getD, List.getElem?_append_left (by omega : i < ts.length)], show (ws.set k v).getD i .nilIface = ws.getD i .nilIface by simp [List.getD_eq_getElem?_getD, List.getElem?_set_ne (Ne.symm hik)]]
            exact ⟨(HALL.out i hi').1.kp hkp9, (HALL.out i hi').2.kp hkp9⟩)
      have HB9 : Hid (Below w.heap.size w (w8.setCell ⟨wa, k, none⟩ v)) := Lib.hid ((below_call hb7 hb8).setCell (p := ⟨wa, k, none⟩) hBw _)
      clear hwc hC7 hW7 hrow7 hkp7 hbt7 hb7 ht0 hcb7 hone hb8 hcb8 hcell hkpS hkp9
      have hkw : IntKind.i64.wrap ((k : Int) + 1) = ((k + 1 : Nat) : Int) := by rw [IntWalk.i64_in _ (by omega)]; omega
      go_wp2
      go_roundw
      case rel => exact ⟨k + 1, ts ++ [b], by simp, by omega, HCK.out, HB9.out⟩
      case measure => simp only [intOf]; omega
end Go.Proofs.YtikamehjeaoilaaGreatDoor
