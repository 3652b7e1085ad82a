/- Append to a row of the call's own, told exactly (Spill): the row's block keeps its size and its first elements. -/
import Derived.Test.YtofofjfmhaggmaaGreatDoorVu
import Derived.Test.YtofofjfmhaggmaaGreatDoorVx
import Derived.Test.YtofofjfmhaggmaaGreatDoorRa
import Derived.Laws.IdiomStrings
set_option linter.unusedVariables false
set_option linter.unusedSimpArgs false
namespace Go.Proofs.YtofofjfmhaggmaaGreatDoor.Aq
open Go.RowKit
theorem below_of_grown {w w' : World} (h : w.grownBy w' none) : Below w.heap.size w w' := Below.grown (Below.refl w.heap.size w) h (Nat.le_refl _) (fun k hk => by cases hk)
structure Spill (N n : Nat) (T : TypeId) (w w' : World) : Prop where
  os : w'.os = w.os
  tape : w'.tape = w.tape
  output : w'.output = w.output
  size : w.heap.size ≤ w'.heap.size
  block : ∀ k, k < w.heap.size → w'.heap[k]? = w.heap[k]? ∨ (N ≤ k ∧ ∃ cs cs', w.heap[k]? = some (.cells cs T (0, 0)) ∧ w'.heap[k]? = some (.cells cs' T (0, 0)) ∧ cs'.size = cs.size ∧ cs'.toList.take n = cs.toList.take n)
theorem Spill.of_below {N n : Nat} {T : TypeId} {w w' : World} (h : Below w.heap.size w w') : Spill N n T w w' := ⟨h.os, h.tape, h.output, h.size, fun k hk => .inl (h.block k hk)⟩
theorem Spill.own {N n b m size : Nat} {T : TypeId} {w w' : World} {e : TypeId} {v : Value} {xs : List Value} (h : Spill N n T w w') (ho : w.ownsRow b e size v m xs) (hm : e = T → m * size ≤ n) : w'.ownsRow b e size v m xs := by
  refine ⟨ho.1, ?_⟩
  rcases ho.2 with h2 | ⟨g, cap, cur, rfl, hb, hg, hc, hx, hs, ht⟩
  · exact .inl h2
  · rcases h.block g (Array.getElem?_eq_some_iff.1 hg).1 with h1 | ⟨_, c1, c2, h1, h2, h3, h4⟩
    · exact .inr ⟨g, cap, cur, rfl, hb, h1.trans hg, hc, hx, hs, ht⟩
    · rw [hg] at h1
      injection h1 with h1
      injection h1 with h1 h5
      subst h1 h5
      refine .inr ⟨g, cap, c2, rfl, hb, h2, hc, hx, h3.trans hs, ?_⟩
      have hmn := hm rfl
      have e1 : (c2.toList.take n).take (m * size) = (cur.toList.take n).take (m * size) := by rw [h4]
      rw [List.take_take, List.take_take, Nat.min_eq_left hmn] at e1
      rw [e1, ht]
theorem own_laid {w : World} {base n m g cap size : Nat} {e : TypeId} {xs news : List Value} {cur : Array Value} (hg : w.heap[g]? = some (.cells cur e (0, 0))) (h : w.ownsRow base e size (.slice (some ⟨g, 0, none⟩) n cap) n xs) (hn : n + m ≤ cap) (hl : news.length = m * size) :
    (w.setCells g (n * size) news).ownsRow base e size (.slice (some ⟨g, 0, none⟩) (n + m) cap) (n + m) (xs ++ news) ∧ Spill base (n * size) e w (w.setCells g (n * size) news) := by
  obtain ⟨h1, h2⟩ := h
  obtain ⟨g', cap', cur', e1, hb, hg', hc, hm, hs, ht⟩ := h2.resolve_left (by rintro ⟨h, _⟩; cases h)
  injection e1 with e1 e2 e3
  injection e1 with e1
  injection e1 with e1
  subst e1 e3
  rw [hg] at hg'
  injection hg' with hg'
  injection hg' with hg' _
  subst hg'
  have hcs : (n + m) * size ≤ cap * size := Nat.mul_le_mul_right _ hn
  rw [Nat.add_mul] at hcs
  have hh := heap_setCells g e news (n * size) w cur hg
  refine ⟨⟨by rw [List.length_append, h1, hl, Nat.add_mul], .inr ⟨g, cap, _, rfl, hb, hh, hn, hm, by rw [laid_size]; exact hs, ?_⟩⟩, ?_⟩
  · apply List.ext_getElem?
    intro k
    rw [Nat.add_mul]
    by_cases hk : k < n * size
    · rw [List.getElem?_take_of_lt (by omega), List.getElem?_append_left (by omega), ← ht, List.getElem?_take_of_lt hk, Array.getElem?_toList, laid_get _ _ _ _ (by omega), if_neg (by omega), Array.getElem?_toList]
    · by_cases hk2 : k < n * size + m * size
      · rw [List.getElem?_take_of_lt hk2, List.getElem?_append_right (by omega), h1, Array.getElem?_toList, laid_get _ _ _ _ (by omega), if_pos (by omega)]
      · rw [List.getElem?_eq_none (by simp; omega), List.getElem?_eq_none (by simp; omega)]
  · have hgl := (Array.getElem?_eq_some_iff.1 hg).1
    obtain ⟨k1, k2, k3, k4, k5⟩ := keep_setCells g news (n * size) w
    refine ⟨k1, k2, k3, k4, fun k hk => ?_⟩
    · by_cases e : k = g
      · subst e
        refine .inr ⟨hb, cur, _, hg, hh, laid_size _ _ _, ?_⟩
        apply List.ext_getElem?
        intro q
        by_cases hq : q < n * size
        · rw [List.getElem?_take_of_lt hq, List.getElem?_take_of_lt hq, Array.getElem?_toList, Array.getElem?_toList, laid_get _ _ _ _ (by omega), if_neg (by omega)]
        · rw [List.getElem?_eq_none (by simp; omega), List.getElem?_eq_none (by simp; omega)]
      · exact .inl (k5 k hk e)
theorem wp_app_full {P : Program} {w : World} {o : Oper} {a : Act} {K : Act → World → Prop} {Q : Exit → Act → World → Prop} {t e : TypeId} {size bytes : Nat} (hE : Elt P t e size bytes) (s x : Operand)
    (ho : o.op = .call { callee := .builtin .append, args := #[s, x], argTypes := #[t, t] }) {v : Value} {n m base c : Nat} {ad : Addr} {xs news : List Value} (hs : a.eval s = v) (hx : a.eval x = .slice (some ad) m c)
    (hown : w.ownsRow base e size v n xs) (hl : news.length = m * size) (hnews : ∀ j u, news[j]? = some u → w.cell? (ad.add j) = some u) (h1 : ∀ u ∈ news, u.oneCell' = true) (hn : n + m ≤ 1099511627776) (hbase : base ≤ w.heap.size)
    (h : ∀ v' w', w'.ownsRow base e size v' (n + m) (xs ++ news) → Spill base (n * size) e w w' → w.grownBy w' v.ownBlock → (v'.ownBlock = v.ownBlock ∨ ∀ g, v'.ownBlock = some g → w.heap.size ≤ g) → K (a.put o.dst v') w') : o.wp P a w K Q := by
  obtain ⟨q1, q2, q3, i, z, q4, q5, q6, q7, q8⟩ := hE
  have hbb : (n + m) * bytes ≤ 1099511627776 * 128 := Nat.mul_le_mul hn q3
  rcases own_forms hown with ⟨rfl, rfl, rfl⟩ | ⟨g, cap, rfl, hgb, hgs⟩
  · exact wp_append_own w s x t ho w.heap.size e i z size bytes q1 q4 q5 q6 q7 q8 q2 _ 0 [] hs (World.ownsRow_nil _ _ _ _) ad m c news hx hl hnews h1 (by unfold maxLen; omega) (by omega) (Nat.le_refl _) fun v' w' a b _ => h v' w' (own_base a hbase) (Spill.of_below (below_of_grown b)) b (.inr fun g hg => (a.lt g hg).1)
  · obtain ⟨_, cap', cur, e1, _, hg, hc, hm, hsz, ht⟩ := hown.2.resolve_left (by rintro ⟨h, _⟩; cases h)
    injection e1 with e1 e2 e3
    injection e1 with e1
    injection e1 with e1
    subst e1 e3
    by_cases hroom : n + m ≤ cap
    · have hms : (n + m) * size ≤ cap * size := Nat.mul_le_mul_right _ hroom
      rw [Nat.add_mul] at hms
      have hr := run_append_room_cells (P := P) w t o.type e i q1 q4 g 0 n cap ad m c news (by rw [q6]; exact hl) hnews h1 hroom
        (fun j hj => by
          rw [q6]
          have : cur[0 + n * size + j]? = some cur[n * size + j] := by rw [Nat.zero_add]; exact Array.getElem?_eq_getElem (by omega)
          rw [cell_of_block hg _ _ this]
          rfl) (fun j hj => free_of_block hg _)
      rw [q6, Nat.zero_add] at hr
      obtain ⟨r1, r2⟩ := own_laid hg hown hroom hl
      unfold Oper.wp execOp
      simp only [ho, resolve, invoke, builtin, Sem.run_bind, Sem.run_pure, Result.andThen_ok, List.map_toArray, List.map_cons, List.map_nil, hs, hx, hr]
      obtain ⟨k1, k2, k3, k4, k5⟩ := keep_setCells g news (n * size) w
      exact h _ _ r1 r2 ⟨k1, k2, k3, k4, fun k hk hne => k5 k hk fun e => hne (by rw [e]; rfl)⟩ (.inl rfl)
    · obtain ⟨v', w', hr, r1, r2⟩ := run_append_arg_grows (P := P) w t o.type e i z size bytes q1 q4 q5 q6 q7 q8 q2 ⟨g, 0, none⟩ n cap xs hown.1 (own_cells hown) ad m c news hl hnews (by omega) (by unfold maxLen; omega) (by omega)
      unfold Oper.wp execOp
      simp only [ho, resolve, invoke, builtin, Sem.run_bind, Sem.run_pure, Result.andThen_ok, List.map_toArray, List.map_cons, List.map_nil, hs, hx, hr]
      exact h _ _ (own_base r1 hbase) (Spill.of_below (below_of_grown r2)) ⟨r2.os, r2.tape, r2.output, r2.size, fun k hk _ => r2.block k hk (by simp)⟩ (.inr fun g hg => (r1.lt g hg).1)
end Go.Proofs.YtofofjfmhaggmaaGreatDoor.Aq
/-! A text written to a tape, by the program. -/
set_option linter.unusedVariables false
set_option linter.unusedSimpArgs false
namespace Go.Proofs.YtofofjfmhaggmaaGreatDoor
open Go.RowKit

def runesV (cs : List Nat) : List Value := cs.map fun c : Nat => Value.int .i32 (c : Int)
theorem runesV_len (cs : List Nat) : (runesV cs).length = cs.length := by simp [runesV]
theorem runesV_append (a b : List Nat) : runesV (a ++ b) = runesV a ++ runesV b := by simp [runesV]
theorem runesV_one (cs : List Nat) : ∀ u ∈ runesV cs, u.oneCell' = true := by
  intro u hu
  obtain ⟨c, _, rfl⟩ := List.mem_map.1 hu
  rfl
/-- A tape at block t: its runes, how many records were written, how many last. -/
structure TapeAt (w : World) (t : Nat) (v : Value) (cs : List Nat) (n k : Nat) : Prop where
  z : w.heap[t]? = some (.cells #[v, .int .i64 n, .int .i64 k] 89 (0, 0))
  row : w.ownsRow 0 21 1 v cs.length (runesV cs)
theorem TapeAt.ne {w : World} {t : Nat} {v : Value} {cs : List Nat} {n k : Nat} (h : TapeAt w t v cs n k) : v.ownBlock ≠ some t := own_other h.row h.z (by decide)
theorem TapeAt.lt {w : World} {t : Nat} {v : Value} {cs : List Nat} {n k : Nat} (h : TapeAt w t v cs n k) : t < w.heap.size ∧ ∀ g, v.ownBlock = some g → g < w.heap.size := ⟨(Array.getElem?_eq_some_iff.1 h.z).1, fun g hg => (own_lt h.row hg).2⟩
theorem TapeAt.mod {S : Nat → Prop} {w w' : World} {t : Nat} {v : Value} {cs : List Nat} {n k : Nat} (h : TapeAt w t v cs n k) (hm : Mod S w w') (h1 : ¬ S t) (h2 : ∀ g, v.ownBlock = some g → ¬ S g) : TapeAt w' t v cs n k := ⟨hm.block' h.z h1, own_mod h.row hm h2⟩
theorem TapeAt.below {w w' : World} {t : Nat} {v : Value} {cs : List Nat} {n k : Nat} (h : TapeAt w t v cs n k) (hb : Below w.heap.size w w') : TapeAt w' t v cs n k := ⟨block_below h.z hb, own_below h.row hb⟩
/-- What a text's runes are. -/
theorem runes_all {cs : List Nat} (hc : ∀ c ∈ cs, c < 2048) : Conv.runesFrom (str (encs cs)) (str (encs cs)).size 0 #[] = (runesV cs).toArray := by
  have := runes_from cs hc [] (str (encs cs)).size #[] (by rw [str_size]; exact Nat.le_refl _)
  simpa [runesV] using this
theorem conv_runes (w : World) (cs : List Nat) (hc : ∀ c ∈ cs, c < 2048) (hl : cs.length ≤ 1073741824) (tx : ByteArray) (ht : tx = str (encs cs)) : ∃ v w', (convert 9 87 (.string tx)).run Tryz.prog w = .ok v w' ∧ (∃ c, v = .slice (some ⟨w.heap.size, 0, none⟩) cs.length c) ∧ w'.ownsRow w.heap.size 21 1 v cs.length (runesV cs) ∧ Below w.heap.size w w' := by
  subst ht
  have e := runes_all hc
  have hs : (Conv.runesFrom (str (encs cs)) (str (encs cs)).size 0 #[]).size = cs.length := by rw [e]; simp [runesV]
  have hr := run_runes_of_string (P := Tryz.prog) w 9 87 21 (str (encs cs)) Tryz.underlying9 Tryz.underlying87 Tryz.underlying21 (by rw [hs]; omega)
  rw [hs, e] at hr
  refine ⟨_, _, hr, ⟨_, rfl⟩, ?_, below_alloc' ((Below.refl w.heap.size w).drew) _⟩
  have h1 := grownCap_ge w cs.length 0 21
  refine ⟨by simp [runesV], .inr ⟨w.heap.size, _, _, rfl, Nat.le_refl _, alloc_at w.drew _, h1, grownCap_le_maxLen w cs.length 0 21 (by unfold maxLen; omega), ?_, ?_⟩⟩
  · simp only [Array.size_append, List.size_toArray, runesV_len, Array.size_replicate]; omega
  · simp [runesV]
theorem set2c {w : World} {g : Nat} {T : TypeId} {a b c : Value} (x y : Value) (h : w.heap[g]? = some (.cells #[a, b, c] T (0, 0))) : ((w.setCell ⟨g, 0, none⟩ x).setCell ⟨g, 1, none⟩ y).heap[g]? = some (.cells #[x, y, c] T (0, 0)) := by
  rw [heap_setCell_same _ g 1 #[x, b, c] T y (by rw [heap_setCell_same w g 0 #[a, b, c] T x h]; rfl)]
  rfl
theorem elt_runes : Elt Tryz.prog 87 21 1 4 := elt_of Tryz.underlying87 (by decide) (by decide) (by kernel_rfl)
/-- Only a row's block and what came after N0 may have changed. -/
def RowM (N0 : Nat) (row : Option Nat) : World → World → Prop := Mod (fun g => row = some g ∨ N0 ≤ g)
/-- What writing has done. -/
def WrotePost (w : World) (t : Nat) (v : Value) (cs : List Nat) (n k : Nat) (cs0 : List Nat) (e : Ending) (w' : World) : Prop :=
  e = .returned (.tuple #[]) ∧ ∃ v', TapeAt w' t v' (cs ++ cs0 ++ [10]) (n + 1) k ∧ Mod (fun g => g = t ∨ v.ownBlock = some g) w w' ∧ (v'.ownBlock = v.ownBlock ∨ ∀ g, v'.ownBlock = some g → w.heap.size ≤ g)
set_option maxRecDepth 100000 in
set_option maxHeartbeats 4000000 in
theorem do_write (w : World) (t : Nat) (v : Value) (cs : List Nat) (n k : Nat) (h : TapeAt w t v cs n k) (cs0 : List Nat) (hc : ∀ c ∈ cs0, c < 2048) (h1 : 1 ≤ cs0.length) (h2 : cs0.length ≤ 1073741824) (h3 : cs.length ≤ 1073741824) (hn : n ≤ 4294967296) (tx : ByteArray) (htx : tx = str (encs cs0)) :
    Calls Tryz.prog 45 #[.pointer (some ⟨t, 0, none⟩), .iface 149 (.agg #[.string tx])] w (WrotePost w t v cs n k cs0) := by
  obtain ⟨va, vc, rfl⟩ := own_slicen h.row
  have hta : ∀ w1, (Instr.typeAssert (.iface 149 (.agg #[.string tx])) 20 149 true).run Tryz.prog w1 = .ok (.tuple #[.agg #[.string tx], .bool true]) w1 := fun _ => by kernel_rfl
  have H := Lib.hid h
  have HC := Lib.hid hc
  have HTX := Lib.hid htx
  clear h hc htx
  go_enter Tryz.func45, Tryz.ntmps45
  go_upto_region 3 with fail
  have z1 := alloc_at w (.cells #[.string tx] 149)
  have hb1 : Below w.heap.size w (w.alloc (.cells #[.string tx] 149)) := below_alloc' (Below.refl _ _) _
  have hs1 : (w.alloc (.cells #[.string tx] 149)).heap.size = w.heap.size + 1 := World.size_alloc _ _
  generalize World.alloc w _ = w1 at z1 hb1 hs1 ⊢
  have hT1 := H.out.below hb1
  have hlt := H.out.lt
  have hne := H.out.ne
  have hf : ∀ w6, RowM (w.heap.size + 1) (Value.ownBlock (.slice va cs.length vc)) w1.drew w6 → w6.heap[t]? = some (.cells #[(.slice va cs.length vc), .int .i64 n, .int .i64 k] 89 (0, 0)) ∧ w6.heap[w.heap.size]? = some (.cells #[.string tx] 149 (0, 0)) ∧ w.heap.size + 1 ≤ w6.heap.size := fun w6 hb => by
    refine ⟨hb.block' (w := w1.drew) hT1.z (fun e => ?_), hb.block' (w := w1.drew) z1 (fun e => ?_), ?_⟩
    · rcases e with e | e
      · exact hne e
      · have := hlt.1; omega
    · rcases e with e | e
      · have := hlt.2 _ e; omega
      · omega
    · have := hb.size
      have e : w1.drew.heap.size = w1.heap.size := rfl
      omega
  have HF := Lib.hid hf
  have HROW := Lib.hid hT1.row
  have HB1 := Lib.hid hb1
  have HS1 := Lib.hid hs1
  have HLT := Lib.hid hlt.2
  obtain ⟨cn, hcn⟩ : ∃ cn, cs0.length = cn := ⟨_, rfl⟩
  have HCN := Lib.hid hcn
  rw [hcn] at h1 h2
  clear hf z1 hb1 hs1 hT1 hlt hne hcn
  refine' Se.wp_region_pass (fun w w' => Below w.heap.size w w') (RowM (w.heap.size + 1) (Value.ownBlock (.slice va cs.length vc))) 11 (by kernel_rfl) (by kernel_rfl) (by kernel_rfl) (by kernel_rfl) (by kernel_rfl) (by kernel_rfl)
    (fun w => Mod.refl _ w) (fun h k => Mod.trans h k) [(fun w3 => w3.ownsRow 0 21 1 (.slice va cs.length vc) cs.length (runesV cs), 8)] [] ?_ ?_ (by simp) (fun vals => ?_)
  case refine'_2 =>
    simp only [List.forall_mem_cons]
    exact ⟨own_drew HROW.out, by simp⟩
  case refine'_3 =>
    simp only [List.forall_mem_cons]
    exact ⟨fun w1 w2 k h => own_below h k, by simp⟩
  rotate_left
  simp only [List.take_succ_cons, List.take_zero, List.drop_succ_cons, List.drop_zero]
  iterate 4 (apply Se.pas_x (fun _ _ h => Mod.of_below h) rfl; (focus rfl); (focus (intro w6 hR hD hP K hK; replace hK := Lib.hid hK; skip; clear hR hD hP; go_simp; exact hK.out _ (Below.refl _ _))); simp only [Act.put, List.setIfInBounds_toArray, List.set_cons_zero, List.set_cons_succ, Nat.reduceAdd, List.cons_append, List.nil_append])
  (apply Se.pas_x (fun _ _ h => Mod.of_below h) rfl; (focus rfl); (focus (intro w6 hR hD hP K hK; replace hK := Lib.hid hK; have e0 := cell_of_block (HF.out w6 hR).1 0 (.slice va cs.length vc) rfl; clear hR hD hP; go_simp; exact hK.out _ (Below.refl _ _))); simp only [Act.put, List.setIfInBounds_toArray, List.set_cons_zero, List.set_cons_succ, Nat.reduceAdd, List.cons_append, List.nil_append])
  (apply Se.pas_x (fun _ _ h => Mod.of_below h) rfl; (focus rfl); (focus (intro w6 hR hD hP K hK; replace hK := Lib.hid hK; skip; clear hR hD hP; go_simp; exact hK.out _ (Below.refl _ _))); simp only [Act.put, List.setIfInBounds_toArray, List.set_cons_zero, List.set_cons_succ, Nat.reduceAdd, List.cons_append, List.nil_append])
  (apply Se.pas_x (fun _ _ h => Mod.of_below h) rfl; (focus rfl); (focus (intro w6 hR hD hP K hK; replace hK := Lib.hid hK; have e0 := cell_of_block (HF.out w6 hR).2.1 0 (.string tx) rfl; clear hR hD hP; go_simp; exact hK.out _ (Below.refl _ _))); simp only [Act.put, List.setIfInBounds_toArray, List.set_cons_zero, List.set_cons_succ, Nat.reduceAdd, List.cons_append, List.nil_append])
  (apply Se.pas_r (fun v w' => (∃ g c, v = .slice (some ⟨g, 0, none⟩) cn c ∧ Value.ownBlock (.slice va cs.length vc) ≠ some g) ∧ w'.ownsRow 0 21 1 v cn (runesV cs0)) (fun _ _ h => Mod.of_below h) rfl (fun v w1 w2 h k => ⟨h.1, own_below h.2 k⟩); (focus rfl); (focus (intro w6 hR hD hP K hK; replace hK := Lib.hid hK; have hown := hP _ (List.mem_cons_self ..) (.inr (by kernel_rfl)); have HO := Lib.hid (fun e => Nat.lt_irrefl _ (hown.lt _ e).2 : Value.ownBlock (.slice va cs.length vc) ≠ some w6.heap.size); clear hR hD hP hown; obtain ⟨v7, w7, hconv, ⟨c, hv7⟩, hrow7, hb7⟩ := conv_runes w6 cs0 HC.out (by rw [HCN.out]; exact h2) tx HTX.out; rw [HCN.out] at hv7 hrow7; subst hv7; have H7 := Lib.hid (And.intro hrow7 hb7); clear hrow7 hb7; go_simp; exact hK.out _ _ H7.out.2 ⟨⟨_, _, rfl, HO.out⟩, own_base H7.out.1 (Nat.zero_le _)⟩)); simp only [Act.put, List.setIfInBounds_toArray, List.set_cons_zero, List.set_cons_succ, Nat.reduceAdd, List.cons_append, List.nil_append])
  (apply Se.pas_s (fun w w' => w.grownBy w' (Value.ownBlock (.slice va cs.length vc))) (fun v w' => w'.ownsRow 0 21 1 v (cs.length + cn) (runesV cs ++ runesV cs0) ∧ (v.ownBlock = Value.ownBlock (.slice va cs.length vc) ∨ ∀ g, v.ownBlock = some g → w.heap.size + 1 ≤ g)) (fun _ _ h => Mod.of_grown h (fun g hg => .inl (.inl hg))) rfl (fun v w1 w2 h k => ⟨own_below h.1 k, h.2⟩); (focus rfl); (focus (intro w6 hR hD hP K hK; replace hK := Lib.hid hK; obtain ⟨⟨g, c, eg, _⟩, hrow⟩ : (∃ g c, vals 7 = .slice (some ⟨g, 0, none⟩) cn c ∧ Value.ownBlock (.slice va cs.length vc) ≠ some g) ∧ w6.ownsRow 0 21 1 (vals 7) cn (runesV cs0) := hD 7 (by kernel_rfl); have hown := hP _ (List.mem_cons_self ..) (.inl rfl); have hsz : w.heap.size + 1 ≤ w6.heap.size := (HF.out w6 hR).2.2; rw [eg] at hrow; clear hD hP hR; simp only [eg] at hK ⊢; exact Aq.wp_app_kp elt_runes (.tmp 15) (.tmp 18) rfl (v := (.slice va cs.length vc)) (n := cs.length) (m := cn) (c := c) (ad := ⟨g, 0, none⟩) (news := runesV cs0) rfl rfl hown (by rw [runesV_len, HCN.out, Nat.mul_one]) (own_cells hrow) (runesV_one cs0) (by omega) (Nat.zero_le _) (fun v' w' h1 h3 h4 => hK.out _ _ h3 ⟨h1, h4.imp id fun h g hg => Nat.le_trans hsz (h g hg)⟩))); simp only [Act.put, List.setIfInBounds_toArray, List.set_cons_zero, List.set_cons_succ, Nat.reduceAdd, List.cons_append, List.nil_append])
  (apply Se.pas_r (fun v w' => (∃ g, v = .slice (some ⟨g, 0, none⟩) 1 1 ∧ Value.ownBlock (.slice va cs.length vc) ≠ some g) ∧ w'.ownsRow 0 21 1 v 1 (runesV [10])) (fun _ _ h => Mod.of_below h) rfl (fun v w1 w2 h k => ⟨h.1, own_below h.2 k⟩); (focus rfl); (focus (intro w6 hR hD hP K hK; replace hK := Lib.hid hK; have hsz : w.heap.size + 1 ≤ w6.heap.size := (HF.out w6 hR).2.2; have HO := Lib.hid (fun e => by have := HLT.out _ e; omega : Value.ownBlock (.slice va cs.length vc) ≠ some w6.heap.size); clear hR hD hP hsz; go_simp; exact hK.out _ _ (below_alloc' (Below.refl _ _) _) ⟨⟨_, rfl, HO.out⟩, ⟨rfl, .inr ⟨_, 1, _, rfl, Nat.zero_le _, alloc_at _ _, Nat.le_refl _, by decide, rfl, rfl⟩⟩⟩)); simp only [Act.put, List.setIfInBounds_toArray, List.set_cons_zero, List.set_cons_succ, Nat.reduceAdd, List.cons_append, List.nil_append])
  (apply Se.pas_s (fun w1 w2 => RowM (w.heap.size + 1) (Value.ownBlock (.slice va cs.length vc)) w1 w2 ∧ Aq.Spill 0 (cs.length + cn) 21 w1 w2) (fun v w' => w'.ownsRow 0 21 1 v (cs.length + cn + 1) (runesV cs ++ runesV cs0 ++ runesV [10]) ∧ (v.ownBlock = Value.ownBlock (.slice va cs.length vc) ∨ ∀ g, v.ownBlock = some g → w.heap.size + 1 ≤ g)) (fun _ _ h => h.1) rfl (fun v w1 w2 h k => ⟨own_below h.1 k, h.2⟩); (focus rfl); (focus (intro w6 hR hD hP K hK; replace hK := Lib.hid hK; obtain ⟨⟨g, eg, _⟩, hrow⟩ : (∃ g, vals 9 = .slice (some ⟨g, 0, none⟩) 1 1 ∧ Value.ownBlock (.slice va cs.length vc) ≠ some g) ∧ w6.ownsRow 0 21 1 (vals 9) 1 (runesV [10]) := hD 9 (by kernel_rfl); have h8 : w6.ownsRow 0 21 1 (vals 8) (cs.length + cn) (runesV cs ++ runesV cs0) ∧ ((vals 8).ownBlock = Value.ownBlock (.slice va cs.length vc) ∨ ∀ g, (vals 8).ownBlock = some g → w.heap.size + 1 ≤ g) := hD 8 (by kernel_rfl); have hsz : w.heap.size + 1 ≤ w6.heap.size := (HF.out w6 hR).2.2; rw [eg] at hrow; clear hD hP hR; simp only [eg] at hK ⊢; exact Aq.wp_app_full elt_runes (.tmp 19) (.tmp 20) rfl (v := vals 8) (n := cs.length + cn) (m := 1) (c := 1) (ad := ⟨g, 0, none⟩) (news := runesV [10]) rfl rfl h8.1 rfl (own_cells hrow) (runesV_one _) (by omega) (Nat.zero_le _) (fun v' w' h1 hsp h3 h4 => hK.out _ _ ⟨Mod.of_grown h3 (fun g hg => by rcases h8.2 with e | e; exact .inl (.inl (e.symm.trans hg)); exact .inl (.inr (e g hg))), by simpa using hsp⟩ ⟨h1, by rcases h4 with e | e; exact h8.2.imp (fun e' => e.trans e') (fun e' g hg => e' g (e.symm.trans hg)); exact .inr fun g hg => Nat.le_trans hsz (e g hg)⟩))); simp only [Act.put, List.setIfInBounds_toArray, List.set_cons_zero, List.set_cons_succ, Nat.reduceAdd, List.cons_append, List.nil_append])
  refine Se.pas_ends ?_ ?_ fun w6 hR hp _ => ?_
  · simp only [Se.AllK, true_and, and_true, true_or, or_true, Nat.reduceAdd]
    refine ⟨⟨.inr (.inr ?_), .inr (.inr ?_), .inr (.inl (by kernel_rfl))⟩, .inr (.inr ?_), .inr (.inr ?_), .inr (.inr ?_)⟩
    · intro v w1 w2 _ hg h
      obtain ⟨⟨g, c, e, hne⟩, h⟩ := h
      exact ⟨⟨g, c, e, hne⟩, World.ownsRow.kept h hg (.inr (by rw [e]; exact Ne.symm hne))⟩
    · intro v w1 w2 _ hg h
      obtain ⟨⟨g, e, hne⟩, h⟩ := h
      exact ⟨⟨g, e, hne⟩, World.ownsRow.kept h hg (.inr (by rw [e]; exact Ne.symm hne))⟩
    · intro v w1 w2 _ hg h
      exact ⟨h.1, hg.2.own h.2 fun _ => by omega⟩
    · intro v w1 w2 _ hg h
      exact ⟨hg.2.own h.1 fun _ => by omega, h.2⟩
    · intro v w1 w2 _ hg h
      exact ⟨h.1, hg.2.own h.2 fun _ => by omega⟩
  · simp only [Se.AllK, true_and, and_true, Nat.reduceAdd]
    refine ⟨fun e he => ?_, fun e he => ?_⟩
    · simp only [List.mem_cons, List.not_mem_nil, or_false] at he
      subst he
      exact .inl rfl
    · simp only [List.mem_cons, List.not_mem_nil, or_false] at he
      subst he
      exact .inr fun w1 w2 _ hg h => hg.2.own h fun _ => by omega
  have h10 : w6.ownsRow 0 21 1 (vals 10) (cs.length + cn + 1) (runesV cs ++ runesV cs0 ++ runesV [10]) ∧ ((vals 10).ownBlock = Value.ownBlock (.slice va cs.length vc) ∨ ∀ g, (vals 10).ownBlock = some g → w.heap.size + 1 ≤ g) := hp 10 (by simp)
  have hz6 := (HF.out w6 hR).1
  have H10 := Lib.hid h10
  have HZ6 := Lib.hid hz6
  have HR6 := Lib.hid hR
  have c0 := cell_of_block hz6 0 (.slice va cs.length vc) rfl
  have c1 := cell_of_block hz6 1 (.int .i64 n) rfl
  have cf := free_of_block hz6
  clear hp h10 hz6 hR
  generalize vals 10 = v10 at H10 ⊢
  obtain ⟨ta, tc, rfl⟩ := own_slicen H10.out.1
  go_wp2_with fail
  have hq0 := set2c (.slice ta (cs.length + cn + 1) tc) (.int .i64 ((n : Int) + 1)) HZ6.out
  have hgb : Gb t w6 ((w6.setCell ⟨t, 0, none⟩ (.slice ta (cs.length + cn + 1) tc)).setCell ⟨t, 1, none⟩ (.int .i64 ((n : Int) + 1))) := (Gb.set _ _ _ _).trans (Gb.set _ _ _ _)
  have hne : Value.ownBlock (.slice ta (cs.length + cn + 1) tc) ≠ some t := own_other H10.out.1 HZ6.out (by decide)
  have hrow := own_mod H10.out.1 hgb.mods fun g hg hs => hne (by rw [hg, hs])
  have HFIN := Lib.hid (And.intro hq0 (And.intro hgb hrow))
  generalize World.setCell (World.setCell w6 _ _) _ _ = y at HFIN ⊢
  clear hq0 hgb hne hrow
  go_end0
  have hcl : (cs ++ cs0 ++ [10]).length = cs.length + cn + 1 := by simp [HCN.out, Nat.add_assoc]
  have hm6 : Mod (fun g => g = t ∨ Value.ownBlock (.slice va cs.length vc) = some g) w w6 :=
    Mod.then (S := fun g => g = t ∨ Value.ownBlock (.slice va cs.length vc) = some g) (Mod.of_below HB1.out.drew) HR6.out fun g hg => by
      rcases hg with hg | hg
      · exact .inl (.inr hg)
      · exact .inr (Nat.le_of_succ_le hg)
  refine ⟨rfl, .slice ta (cs.length + cn + 1) tc, ⟨?_, ?_⟩, hm6.trans (HFIN.out.2.1.mods.sub fun g _ hg => .inl hg), H10.out.2.imp id fun h g hg => Nat.le_of_succ_le (h g hg)⟩
  · simpa using HFIN.out.1
  · rw [hcl, runesV_append, runesV_append]; exact HFIN.out.2.2
end Go.Proofs.YtofofjfmhaggmaaGreatDoor
/-! A tape made to last, by the program. -/
set_option linter.unusedVariables false
set_option linter.unusedSimpArgs false
namespace Go.Proofs.YtofofjfmhaggmaaGreatDoor
open Go.RowKit

set_option maxRecDepth 100000 in
set_option maxHeartbeats 1000000 in
theorem do_sync (w : World) (t : Nat) (v : Value) (cs : List Nat) (n k : Nat) (h : TapeAt w t v cs n k) :
    Calls Tryz.prog 45 #[.pointer (some ⟨t, 0, none⟩), .iface 150 (.agg #[])] w fun e w' => e = .returned (.tuple #[]) ∧ TapeAt w' t v cs n n ∧ Mod (fun g => g = t) w w' := by
  have hta : ∀ w1, (Instr.typeAssert (.iface 150 (.agg #[])) 20 149 true).run Tryz.prog w1 = .ok (.tuple #[.agg #[.string ⟨#[]⟩], .bool false]) w1 := fun _ => by kernel_rfl
  have htb : ∀ w1, (Instr.typeAssert (.iface 150 (.agg #[])) 20 150 true).run Tryz.prog w1 = .ok (.tuple #[.agg #[], .bool true]) w1 := fun _ => by kernel_rfl
  have H := Lib.hid h
  clear h
  go_enter Tryz.func45, Tryz.ntmps45
  go_upto_region 7 with fail
  have hb1 : Below w.heap.size w (w.alloc (.cells #[] 150)) := below_alloc' (Below.refl _ _) _
  generalize World.alloc w _ = w1 at hb1 ⊢
  have hT1 := H.out.below hb1
  have c1 := cell_of_block hT1.z 1 (.int .i64 n) rfl
  have c2 := cell_of_block hT1.z 2 (.int .i64 k) rfl
  have cf := free_of_block hT1.z
  have HT1 := Lib.hid (And.intro hT1 hb1)
  clear hb1 hT1
  go_wp2_with fail
  go_end0
  have hgb : Gb t w1 (w1.setCell ⟨t, 2, none⟩ (.int .i64 n)) := Gb.set _ _ _ _
  refine ⟨rfl, ⟨?_, own_mod HT1.out.1.row hgb.mods fun g hg hs => HT1.out.1.ne (by rw [hg, hs])⟩, (Mod.of_below HT1.out.2).trans hgb.mods⟩
  rw [heap_setCell_same _ t 2 _ _ _ HT1.out.1.z]
  rfl
set_option maxRecDepth 100000 in
theorem sync_any (w : World) (t : Nat) (v : Value) (cs : List Nat) (n k : Nat) (h : TapeAt w t v cs n k) :
    Calls Tryz.prog 73 #[.pointer (some ⟨t, 0, none⟩)] w fun e w' => e = .returned (.tuple #[]) ∧ TapeAt w' t v cs n n ∧ Mod (fun g => g = t) w w' := by
  have H := Lib.hid h
  clear h
  go_enter Tryz.func73, Tryz.ntmps73
  go_wp2_with fail
  refine (do_sync w t v cs n k H.out).mono ?_
  rintro e w1 ⟨rfl, hT, hm⟩
  have HT := Lib.hid (And.intro hT hm)
  clear hT hm
  go_wp2_with fail
  go_end0
  exact ⟨rfl, HT.out.1, HT.out.2⟩
end Go.Proofs.YtofofjfmhaggmaaGreatDoor
