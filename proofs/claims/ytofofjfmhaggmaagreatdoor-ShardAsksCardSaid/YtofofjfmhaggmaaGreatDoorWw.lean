/- A new ledger, a new tape, a new shard of what its tape has. -/
import Derived.Test.YtofofjfmhaggmaaGreatDoorWv
set_option linter.unusedVariables false
set_option linter.unusedSimpArgs false
namespace Go.Proofs.YtofofjfmhaggmaaGreatDoor
open Go.RowKit

/-- The cells of a record in a row. -/
def RecC (Q : Nat → Prop) (w : World) (cs : List Value) (r : RecL) : Prop := ∃ ea en ec la ln lc ua un uc xa xn xc, cs = [.int .i64 r.kind, .int .i64 r.gang, .slice ea en ec, .slice la ln lc, .string (str r.node.name), .int .i64 r.node.cpu, .int .i64 r.node.mem, .slice ua un uc, .slice xa xn xc, .bool r.node.closed] ∧ RecM Q w ea en ec la ln lc ua un uc xa xn xc r
/-- A row of records. -/
def RecsQ (Q : Nat → Prop) (w : World) (v : Value) (rs : List RecL) : Prop := ∃ c, Rq Q w 67 10 v rs.length (flat rs.length c) ∧ ∀ i (hi : i < rs.length), RecC Q w (c i) rs[i]
section
variable {Q Q' S : Nat → Prop} {w w' : World} {v : Value} {rs : List RecL}
theorem RecM.sub {ea la ua xa : Option Addr} {en ec ln lc un uc xn xc : Nat} {r : RecL} (h : RecM Q w ea en ec la ln lc ua un uc xa xn xc r) (k : ∀ g, g < w.heap.size → Q' g → Q g) : RecM Q' w ea en ec la ln lc ua un uc xa xn xc r := ⟨h.1.sub k, Rq.sub h.2.1 k, Rq.sub h.2.2.1 k, Rq.sub h.2.2.2 k⟩
theorem RecC.below {cs : List Value} {r : RecL} (h : RecC Q w cs r) (k : Below w.heap.size w w') : RecC Q w' cs r := by
  obtain ⟨ea, en, ec, la, ln, lc, ua, un, uc, xa, xn, xc, h1, h2⟩ := h
  exact ⟨ea, en, ec, la, ln, lc, ua, un, uc, xa, xn, xc, h1, h2.below k⟩
theorem RecC.mod {cs : List Value} {r : RecL} (h : RecC Q w cs r) (k : Mod S w w') (hS : ∀ g, g < w.heap.size → S g → Q g) : RecC Q w' cs r := by
  obtain ⟨ea, en, ec, la, ln, lc, ua, un, uc, xa, xn, xc, h1, h2⟩ := h
  exact ⟨ea, en, ec, la, ln, lc, ua, un, uc, xa, xn, xc, h1, h2.mod k hS⟩
theorem RecC.sub {cs : List Value} {r : RecL} (h : RecC Q w cs r) (k : ∀ g, g < w.heap.size → Q' g → Q g) : RecC Q' w cs r := by
  obtain ⟨ea, en, ec, la, ln, lc, ua, un, uc, xa, xn, xc, h1, h2⟩ := h
  exact ⟨ea, en, ec, la, ln, lc, ua, un, uc, xa, xn, xc, h1, h2.sub k⟩
theorem RecsQ.below (h : RecsQ Q w v rs) (k : Below w.heap.size w w') : RecsQ Q w' v rs := by
  obtain ⟨c, h1, h2⟩ := h
  exact ⟨c, h1.below k, fun i hi => (h2 i hi).below k⟩
theorem RecsQ.mod (h : RecsQ Q w v rs) (k : Mod S w w') (hS : ∀ g, g < w.heap.size → S g → Q g) : RecsQ Q w' v rs := by
  obtain ⟨c, h1, h2⟩ := h
  exact ⟨c, h1.mod k hS, fun i hi => (h2 i hi).mod k hS⟩
theorem RecsQ.sub (h : RecsQ Q w v rs) (k : ∀ g, g < w.heap.size → Q' g → Q g) : RecsQ Q' w v rs := by
  obtain ⟨c, h1, h2⟩ := h
  exact ⟨c, h1.sub k, fun i hi => (h2 i hi).sub k⟩
theorem RecC.len {cs : List Value} {r : RecL} (h : RecC Q w cs r) : cs.length = 10 := by
  obtain ⟨ea, en, ec, la, ln, lc, ua, un, uc, xa, xn, xc, rfl, h2⟩ := h
  rfl
end
set_option maxHeartbeats 1000000 in
set_option maxRecDepth 100000 in
theorem tapeNew_any (w : World) : Calls Tryz.prog 29 #[] w fun e w' => ∃ t, e = .returned (.pointer (some ⟨t, 0, none⟩)) ∧ w.heap.size ≤ t ∧ TapeAt w' t (.slice none 0 0) [] 0 0 ∧ Below w.heap.size w w' := by
  go_enter Tryz.func29, Tryz.ntmps29
  go_wp2
  go_ret
  exact ⟨_, rfl, Nat.le_refl _, ⟨alloc_at _ _, World.ownsRow_nil _ _ _ _⟩, below_alloc' (Below.refl _ _) _⟩
theorem mk_strs0 (w : World) : (Instr.makeSlice 39 (.int .i64 0) (.int .i64 0)).run Tryz.prog w = .ok (.slice (some ⟨w.heap.size, 0, none⟩) 0 0) (w.alloc (.cells #[] 9)) := by kernel_rfl
theorem mk_recs0 (w : World) : (Instr.makeSlice 64 (.int .i64 0) (.int .i64 0)).run Tryz.prog w = .ok (.slice (some ⟨w.heap.size, 0, none⟩) 0 0) (w.alloc (.cells #[] 67)) := by kernel_rfl
set_option maxHeartbeats 1000000 in
set_option maxRecDepth 100000 in
theorem lines_none (w : World) (t k : Nat) (h : TapeAt w t (.slice none 0 0) [] 0 k) : Calls Tryz.prog 16 #[.pointer (some ⟨t, 0, none⟩)] w fun e w' => (∃ a, e = .returned (.slice a 0 0)) ∧ Below w.heap.size w w' := by
  have e0 := cell_of_block h.z 0 _ rfl
  have e1 := cell_of_block h.z 1 _ rfl
  have d0 : ∀ o, (w.alloc o).cell? ⟨t, 0, none⟩ = some (.slice none 0 0) := fun o => cell_of_block (block_below h.z (below_alloc' (Below.refl _ _) _)) 0 _ rfl
  have hm := mk_strs0 w
  clear h
  go_enter Tryz.func16, Tryz.ntmps16
  go_wp2
  refine wp_loop_rounds 1 ?_
  rw [rounds_succ]
  go_wp2
  go_ret
  exact ⟨⟨_, rfl⟩, below_alloc' (Below.refl _ _) _⟩
set_option maxHeartbeats 1000000 in
set_option maxRecDepth 100000 in
theorem all_none (w : World) (t k : Nat) (h : TapeAt w t (.slice none 0 0) [] 0 k) : Calls Tryz.prog 25 #[.pointer (some ⟨t, 0, none⟩)] w fun e w' => ∃ v, e = .returned v ∧ RecsQ (fun g => g < w.heap.size) w' v [] ∧ Below w.heap.size w w' := by
  have e0 := cell_of_block h.z 0 _ rfl
  have e1 := cell_of_block h.z 1 _ rfl
  have hm := mk_recs0 w
  have H := Lib.hid h
  clear h
  go_enter Tryz.func25, Tryz.ntmps25
  go_wp2_with fail
  have hb : Below w.heap.size w (w.alloc (.cells #[] 67)) := below_alloc' (Below.refl _ _) _
  refine (lines_none _ t k (H.out.below hb)).mono ?_
  rintro e w1 ⟨⟨a, rfl⟩, hb1⟩
  have HB := Lib.hid (And.intro (below_call hb hb1) (block_below (alloc_at w (.cells #[] 67)) hb1))
  clear hb1 e0 e1 hb
  go_wp2
  refine wp_loop_rounds 1 ?_
  rw [rounds_succ]
  go_wp2
  go_ret
  exact ⟨_, rfl, ⟨fun _ => [], ⟨⟨rfl, .inr ⟨w.heap.size, 0, #[], rfl, Nat.zero_le _, HB.out.2, Nat.le_refl _, by decide, rfl, rfl⟩⟩, fun g hg hq => by injection hg with hg; have hq : g < w.heap.size := hq; rw [← hg] at hq; exact Nat.lt_irrefl _ hq⟩, fun i hi => absurd hi (Nat.not_lt_zero _)⟩, HB.out.1⟩
set_option maxHeartbeats 1000000 in
set_option maxRecDepth 100000 in
theorem ledgerNew_any (w : World) : Calls Tryz.prog 46 #[] w fun e w' => ∃ l a b, e = .returned (.pointer (some ⟨l, 0, none⟩)) ∧ (w.heap.size ≤ a ∧ w.heap.size ≤ b ∧ w.heap.size ≤ l ∧ a ≠ b ∧ l ≠ a ∧ l ≠ b) ∧ w'.heap[l]? = some (.cells #[.map (some a), .map (some b)] 147 (0, 0)) ∧ MapIs encS w' a [] ∧ MapIs encI w' b [] ∧ Below w.heap.size w w' := by
  have hmm := @run_makeMap Tryz.prog
  go_enter Tryz.func46, Tryz.ntmps46
  go_wp2_with fail
  go_ret
  have hA := MapIs.new encS w
  have hB := MapIs.new encI (w.alloc (.map #[] 0))
  have b1 : ∀ (w : World) o, Below w.heap.size w (w.alloc o) := fun w o => below_alloc' (Below.refl _ _) o
  have hB' := hB.same _ ((b1 _ (.cells #[.map (some w.heap.size), .map (some (w.heap.size + 1))] 147)).block _ hB.lt)
  have hA1 := hA.same _ ((b1 _ (.map #[] 0)).block _ hA.lt)
  have hA' := hA1.same _ ((b1 _ (.cells #[.map (some w.heap.size), .map (some (w.heap.size + 1))] 147)).block _ hA1.lt)
  have e1 : (w.alloc (.map #[] 0)).heap.size = w.heap.size + 1 := by simp
  rw [e1] at hB'
  refine ⟨_, _, _, rfl, ⟨?_, ?_, ?_, ?_, ?_, ?_⟩, alloc_is (by simp) _, hA', hB', below_alloc' (below_alloc' (below_alloc' (Below.refl _ _) _) _) _⟩
  all_goals omega
/-- Q, and a new shard's own blocks. -/
def Q3 (Q : Nat → Prop) (a b m : Nat) : Nat → Prop := fun g => Q g ∨ g = a ∨ g = b ∨ g = m
theorem bare_at {Q : Nat → Prop} {w : World} {me mode : Int} {s l a b m t : Nat} {tv : Value} {cs : List Nat} {rs : List RecL} {k : Nat} (hz : w.heap[s]? = some (.cells #[.int .i64 me, .int .i64 mode, .pointer (some ⟨t, 0, none⟩), .pointer (some ⟨l, 0, none⟩), .map (some m)] 94 (0, 0))) (hl : w.heap[l]? = some (.cells #[.map (some a), .map (some b)] 147 (0, 0)))
    (ha : MapIs encS w a []) (hb : MapIs encI w b []) (hm : MapIs encI w m []) (hT : TapeAt w t tv cs rs.length k) (hR : RecsAt rs cs) (hc : cs.length ≤ rs.length * 1000001) (qa : Q a) (qb : Q b) (qm : Q m) (qt : Q t) (qs : ¬ Q s) (ql : ¬ Q l) (n1 : a ≠ b) (n2 : m ≠ a) (n3 : m ≠ b) (hi : GN ≤ a ∧ GN ≤ b ∧ GN ≤ m ∧ GN ≤ t ∧ ∀ g, tv.ownBlock = some g → GN ≤ g) :
    ShardAt Q w s l a b m t tv (ShL.bare me mode rs k) :=
  ⟨hz, ⟨hl, ⟨[], ha, .nil⟩, ⟨[], hb, .nil⟩, n1, qa, qb, ql⟩, ⟨[], hm, .nil⟩, ⟨cs, hT, hR, hc⟩, qm, qt, qs, ⟨n2, n3⟩, hi⟩
/-- A row of records, cell by cell. -/
theorem recs_at {Q : Nat → Prop} {w : World} {v : Value} {ns : List RecL} (h : RecsQ Q w v ns) : ∃ a c, v = .slice a ns.length c ∧ ∀ i (hi : i < ns.length), ∃ bk ea en ec la ln lc ua un uc xa xn xc, a = some ⟨bk, 0, none⟩ ∧ bk < w.heap.size ∧ ns.length ≤ c ∧
    (w.cell? ⟨bk, i * 10, none⟩ = some (.int .i64 ns[i].kind) ∧ w.cell? ⟨bk, i * 10 + 1, none⟩ = some (.int .i64 ns[i].gang) ∧ w.cell? ⟨bk, i * 10 + 2, none⟩ = some (.slice ea en ec) ∧ w.cell? ⟨bk, i * 10 + 3, none⟩ = some (.slice la ln lc) ∧ w.cell? ⟨bk, i * 10 + 4, none⟩ = some (.string (str ns[i].node.name)) ∧ w.cell? ⟨bk, i * 10 + 5, none⟩ = some (.int .i64 ns[i].node.cpu) ∧ w.cell? ⟨bk, i * 10 + 6, none⟩ = some (.int .i64 ns[i].node.mem) ∧ w.cell? ⟨bk, i * 10 + 7, none⟩ = some (.slice ua un uc) ∧ w.cell? ⟨bk, i * 10 + 8, none⟩ = some (.slice xa xn xc) ∧ w.cell? ⟨bk, i * 10 + 9, none⟩ = some (.bool ns[i].node.closed)) ∧
    RecM Q w ea en ec la ln lc ua un uc xa xn xc ns[i] := by
  obtain ⟨c, hr, hc⟩ := h
  have hl : ∀ i, i < ns.length → (c i).length = 10 := fun i hi => (hc i hi).len
  rcases own_forms hr.1 with ⟨rfl, h0, h1⟩ | ⟨g, cap, rfl, _, hg⟩
  · exact ⟨_, _, by rw [h0], fun i hi => by omega⟩
  · refine ⟨_, _, rfl, fun i hi => ?_⟩
    obtain ⟨ea, en, ec, la, ln, lc, ua, un, uc, xa, xn, xc, e, h2⟩ := hc i hi
    obtain ⟨_, cap', cur, e1, _, _, hcap, _⟩ := hr.1.2.resolve_left (by rintro ⟨h, _⟩; cases h)
    injection e1 with _ _ e3
    have k : ∀ j, j < 10 → w.cell? ⟨g, i * 10 + j, none⟩ = (c i)[j]? := fun j hj => by
      rw [hr.1.cellAt (i * 10 + j) (by omega), flat_get hl hi hj]
    rw [e] at k
    exact ⟨g, ea, en, ec, la, ln, lc, ua, un, uc, xa, xn, xc, rfl, hg, by omega, ⟨k 0 (by omega), k 1 (by omega), k 2 (by omega), k 3 (by omega), k 4 (by omega), k 5 (by omega), k 6 (by omega), k 7 (by omega), k 8 (by omega), k 9 (by omega)⟩, h2⟩
/-- What is read of the first j records. -/
def madeTo (me mode : Int) (rs : List RecL) (k j : Nat) : ShL := (rs.take j).foldl ShL.replay1 (ShL.bare me mode rs k)
theorem madeTo_succ {me mode : Int} {rs : List RecL} {k j : Nat} (hj : j < rs.length) : madeTo me mode rs k (j + 1) = (madeTo me mode rs k j).replay1 rs[j] := by
  unfold madeTo
  rw [List.take_succ_eq_append_getElem hj, List.foldl_append, List.foldl_cons, List.foldl_nil]
theorem madeTo_ok {me mode : Int} {rs : List RecL} {k : Nat} (hf : ∀ r ∈ rs, RecFew r) : ∀ j, j ≤ rs.length → (madeTo me mode rs k j).led.ok ∧ (madeTo me mode rs k j).led.taken.length ≤ j
  | 0, _ => ⟨LedL.none_ok, Nat.zero_le _⟩
  | j + 1, hj => by
    obtain ⟨h1, h2⟩ := madeTo_ok (me := me) (mode := mode) (k := k) hf j (by omega)
    rw [madeTo_succ (by omega)]
    exact ⟨replay1_ok h1 (hf _ (List.getElem_mem _)).places, Nat.le_trans replay1_taken (by omega)⟩
/-- Where j records are read again. -/
structure MadeR (Q : Nat → Prop) (w1 : World) (s l a b m t : Nat) (tv : Value) (me mode : Int) (rs : List RecL) (k : Nat) (j : Nat) (wr : World) : Prop where
  sh : ShardAt (Q3 Q a b m) wr s l a b m t tv (madeTo me mode rs k j)
  mod : Mod (fun g => g = a ∨ g = b ∨ g = m) w1 wr
set_option maxHeartbeats 4000000 in
set_option maxRecDepth 100000 in
theorem shardNew_any (Q : Nat → Prop) (w : World) (me mode : Int) (t : Nat) (tv : Value) (cs : List Nat) (rs : List RecL) (k : Nat) (hQ : ∀ g, Q g → g < w.heap.size) (qt : Q t) (hT : TapeAt w t tv cs rs.length k) (hR : RecsAt rs cs) (hc : cs.length ≤ rs.length * 1000001) (hn : rs.length ≤ 1073741824) (hf : ∀ r ∈ rs, RecFew r) (hi : GN ≤ w.heap.size ∧ GN ≤ t ∧ ∀ g, tv.ownBlock = some g → GN ≤ g)
    (hall : ∀ w1, Below w.heap.size w w1 → Calls Tryz.prog 25 #[.pointer (some ⟨t, 0, none⟩)] w1 fun e w' => ∃ v, e = .returned v ∧ RecsQ (fun g => g < w1.heap.size) w' v rs ∧ Below w1.heap.size w1 w') :
    Calls Tryz.prog 23 #[.int .i64 me, .int .i64 mode, .pointer (some ⟨t, 0, none⟩)] w fun e w' => ∃ s l a b m, e = .returned (.pointer (some ⟨s, 0, none⟩)) ∧ (w.heap.size ≤ s ∧ w.heap.size ≤ l ∧ w.heap.size ≤ a ∧ w.heap.size ≤ b ∧ w.heap.size ≤ m) ∧ ShardAt (Q3 Q a b m) w' s l a b m t tv (ShL.made me mode rs k) ∧ Below w.heap.size w w' := by
  have hmm := @run_makeMap Tryz.prog
  have HH := Lib.hid (And.intro hQ (And.intro qt (And.intro hT (And.intro hR (And.intro hf hi)))))
  have HALL := Lib.hid hall
  clear hQ qt hT hR hf hi hall
  go_enter Tryz.func23, Tryz.ntmps23
  go_wp2_with fail
  refine (ledgerNew_any _).mono ?_
  rintro e w1 ⟨l, a, b, rfl, hh, hl, ha, hb, hb1⟩
  go_wp2_with fail
  have hb2 : Below w.heap.size w ((w1.alloc (.map #[] 0)).alloc (.cells #[.int .i64 me, .int .i64 mode, .pointer (some ⟨t, 0, none⟩), .pointer (some ⟨l, 0, none⟩), .map (some w1.heap.size)] 94)) := below_alloc' (below_alloc' hb1 _) _
  have hb12 : Below w1.heap.size w1 ((w1.alloc (.map #[] 0)).alloc (.cells #[.int .i64 me, .int .i64 mode, .pointer (some ⟨t, 0, none⟩), .pointer (some ⟨l, 0, none⟩), .map (some w1.heap.size)] 94)) := below_alloc' (below_alloc' (Below.refl _ _) _) _
  have hs1 := hb1.size
  have hm := (MapIs.new encI w1).same _ ((below_alloc' (Below.refl (w1.alloc (.map #[] 0)).heap.size _) (.cells #[.int .i64 me, .int .i64 mode, .pointer (some ⟨t, 0, none⟩), .pointer (some ⟨l, 0, none⟩), .map (some w1.heap.size)] 94)).block _ (MapIs.new encI w1).lt)
  have hz : ((w1.alloc (.map #[] 0)).alloc (.cells #[.int .i64 me, .int .i64 mode, .pointer (some ⟨t, 0, none⟩), .pointer (some ⟨l, 0, none⟩), .map (some w1.heap.size)] 94)).heap[w1.heap.size + 1]? = some (.cells #[.int .i64 me, .int .i64 mode, .pointer (some ⟨t, 0, none⟩), .pointer (some ⟨l, 0, none⟩), .map (some w1.heap.size)] 94 (0, 0)) := alloc_is (by simp) _
  have hl2 := block_below hl hb12
  have ha2 := ha.same _ (hb12.block _ ha.lt)
  have hb2' := hb.same _ (hb12.block _ hb.lt)
  have hla := ha.lt
  have hlb := hb.lt
  have hll := (Array.getElem?_eq_some_iff.1 hl).1
  generalize World.alloc _ (.cells #[.int .i64 me, .int .i64 mode, .pointer (some ⟨t, 0, none⟩), .pointer (some ⟨l, 0, none⟩), .map (some w1.heap.size)] 94) = w2 at hb2 hb12 hm hz hl2 ha2 hb2' ⊢
  have htz := HH.out.2.2.1.lt
  have hgn := HH.out.2.2.2.2.2
  have hSH : ShardAt (Q3 Q a b w1.heap.size) w2 (w1.heap.size + 1) l a b w1.heap.size t tv (ShL.bare me mode rs k) :=
    bare_at hz hl2 ha2 hb2' hm (HH.out.2.2.1.below hb2) HH.out.2.2.2.1 hc (.inr (.inl rfl)) (.inr (.inr (.inl rfl))) (.inr (.inr (.inr rfl))) (.inl HH.out.2.1)
      (fun hq => by rcases hq with hq | hq | hq | hq; (have := HH.out.1 _ hq; omega); all_goals omega) (fun hq => by rcases hq with hq | hq | hq | hq; (have := HH.out.1 _ hq; omega); all_goals omega) hh.2.2.2.1 (by omega) (by omega) ⟨by omega, by omega, by omega, hgn.2.1, hgn.2.2⟩
  have HSH := Lib.hid (And.intro hSH (And.intro hb2 (And.intro hh hs1)))
  have HQ2 := Lib.hid (show ∀ g, Q3 Q a b w1.heap.size g → g < w2.heap.size from fun g hq => by
    have h1 := hb12.size
    have h2 := (Array.getElem?_eq_some_iff.1 hz).1
    rcases hq with hq | hq | hq | hq
    · have := HH.out.1 _ hq; omega
    all_goals omega)
  clear hb1 hb12 hm hz hl2 ha2 hb2' hla hlb hll hh hl ha hb hSH htz hgn
  generalize w1.heap.size = m at HSH HQ2 hs1 ⊢
  refine (HALL.out w2 hb2).mono ?_
  rintro e w3 ⟨v, rfl, hv, hb3⟩
  obtain ⟨va, vc, rfl, _⟩ := recs_at hv
  have HV := Lib.hid (hv.sub (Q' := Q3 Q a b m) fun g _ hq => HQ2.out g hq)
  have hR0 : MadeR Q w3 (m + 1) l a b m t tv me mode rs k 0 w3 := ⟨HSH.out.1.below hb3, Mod.refl _ _⟩
  have HR0 := Lib.hid hR0
  have HB3 := Lib.hid (below_call hb2 hb3)
  have HBX := Lib.hid (Below.refl w3.heap.size w3)
  have HQ3 := Lib.hid (show ∀ g, Q3 Q a b m g → g < w3.heap.size from fun g hq => Nat.lt_of_lt_of_le (HQ2.out g hq) hb3.size)
  obtain ⟨N, hN⟩ : ∃ N, rs.length = N := ⟨_, rfl⟩
  have HNN := Lib.hid hN
  rw [hN] at hn
  clear hv hb3 hb2 hR0 hs1 HQ2 HALL
  rw [hN]
  clear hN
  go_wp2_with fail
  go_loopw [20] (fun i wr => ∃ j : Nat, i = .int .i64 j ∧ j ≤ N ∧ MadeR Q w3 (m + 1) l a b m t tv me mode rs k j wr) (fun i _ => N - (intOf i).toNat)
  case atStart => exact ⟨0, rfl, Nat.zero_le _, HR0.out⟩
  case round =>
    clear HR0
    obtain ⟨j, rfl, hj, hR⟩ := hrel
    have HR := Lib.hid hR
    clear hR
    by_cases hjl : j < N
    · have HJ := Lib.hid hjl
      have hjs : j < rs.length := by rw [HNN.out]; exact hjl
      have HSUC := Lib.hid (madeTo_succ (me := me) (mode := mode) (k := k) hjs)
      have HOK := Lib.hid (madeTo_ok (me := me) (mode := mode) (k := k) HH.out.2.2.2.2.1 j (Nat.le_of_lt hjs))
      have HF := Lib.hid (HH.out.2.2.2.2.1 _ (List.getElem_mem hjs))
      have hvw := HV.out.below (w' := w3) HBX.out
      obtain ⟨va', vc', hva, hat⟩ := recs_at (hvw.mod HR.out.mod fun g _ hg => .inr hg)
      injection hva with hv1 hv2 hv3
      subst hv1 hv3
      obtain ⟨bk, ea, en, ec, la, ln, lc, ua, un, uc, xa, xn, xc, rfl, hbk, hcap, ⟨k0, k1, k2, k3, k4, k5, k6, k7, k8, k9⟩, hM⟩ := hat j hjs
      obtain ⟨r, hr⟩ : ∃ r, rs[j] = r := ⟨_, rfl⟩
      rw [hr] at k0 k1 k4 k5 k6 k9 hM HSUC HF
      obtain ⟨sn, hsn⟩ : ∃ sn, str r.node.name = sn := ⟨_, rfl⟩
      rw [hsn] at k4
      have HSNR := Lib.hid hsn
      have HM := Lib.hid hM
      have hj0 : (0 : Int) ≤ (j : Int) := by omega
      have hj1 : (j : Int) < (N : Int) := by omega
      clear hat hbk hr hsn hM hvw hv2
      go_upto_region 5 with fail
      have z1 := alloc_at wr (.cells #[.int .i64 r.kind, .int .i64 r.gang, .slice ea en ec, .slice la ln lc, .string sn, .int .i64 r.node.cpu, .int .i64 r.node.mem, .slice ua un uc, .slice xa xn xc, .bool r.node.closed] 67)
      have hb1 : Below wr.heap.size wr (wr.alloc (.cells #[.int .i64 r.kind, .int .i64 r.gang, .slice ea en ec, .slice la ln lc, .string sn, .int .i64 r.node.cpu, .int .i64 r.node.mem, .slice ua un uc, .slice xa xn xc, .bool r.node.closed] 67)) := below_alloc' (Below.refl _ _) _
      generalize World.alloc wr _ = w5 at z1 hb1 ⊢
      obtain ⟨k0, k1, k2, k3, k4, k5, k6, k7, k8, k9⟩ := cells10 z1
      have HB5 := Lib.hid hb1
      have HS5 := Lib.hid (HR.out.sh.below hb1)
      have hsz : w3.heap.size ≤ w5.heap.size := Nat.le_trans HR.out.mod.size hb1.size
      have HQ5 := Lib.hid (show ∀ g, Q3 Q a b m g → g < w5.heap.size from fun g hq => Nat.lt_of_lt_of_le (HQ3.out g hq) hsz)
      clear hb1 z1 hsz
      go_wp2_with fail
      refine (replay_any HS5.out HQ5.out HOK.out.1 (by have := HOK.out.2; omega) (r := r) ⟨_, _, _, _, _, _, _, _, _, _, _, _, by rw [HSNR.out], HM.out.below HB5.out⟩ HF.out).mono ?_
      rintro e w6 ⟨rfl, hS6, hM6⟩
      have HS6 := Lib.hid (show MadeR Q w3 (m + 1) l a b m t tv me mode rs k (j + 1) w6 from ⟨by rw [HSUC.out]; exact hS6, HR.out.mod.trans ((Mod.of_below HB5.out).trans hM6)⟩)
      clear hS6 hM6 k0 k1 k2 k3 k4 k5 k6 k7 k8 k9
      go_wp2
      go_roundw
      case rel => exact ⟨j + 1, by go_num, HJ.out, HS6.out⟩
      case measure => have := HJ.out; simp [intOf]; omega
    · obtain rfl : j = N := by omega
      have HFU := Lib.hid (show madeTo me mode rs k j = ShL.made me mode rs k by unfold madeTo ShL.made; rw [List.take_of_length_le (by rw [HNN.out]; exact Nat.le_refl _)])
      go_wp2
      go_ret
      obtain ⟨h1, h2⟩ := HR.out
      rw [HFU.out] at h1
      obtain ⟨hs, hb2, hh, hs1⟩ := HSH.out
      have hbb := Mod.then (S := fun _ => False) (Mod.of_below HB3.out) h2 fun g hg => .inr (by rcases hg with rfl | rfl | rfl <;> omega)
      exact ⟨_, _, _, _, _, rfl, ⟨by omega, hh.2.2.1, hh.1, hh.2.1, hs1⟩, h1, hbb.below fun g hg => hg.elim⟩
end Go.Proofs.YtofofjfmhaggmaaGreatDoor
