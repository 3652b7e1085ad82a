/- ScoreAdd: the law's walk. -/
import Derived.Test.YtpndngcopfpdgaaAl
import Derived.Test.YtpndngcopfpdgaaSk
import Derived.Test.YtpndngcopfpdgaaSe
import Derived.Deep.Cut
set_option linter.unusedVariables false
set_option linter.unusedSimpArgs false
namespace Go.Proofs.Ytpndngcopfpdgaa
open Go.RowKit

/-- Nothing below block N changes. -/
def LowB (N : Nat) (w w' : World) : Prop := N ≤ w.heap.size → Below N w w'
theorem LowB.refl (N : Nat) (w : World) : LowB N w w := fun _ => Below.refl _ _
theorem LowB.trans {N : Nat} {a b c : World} (h : LowB N a b) (k : LowB N b c) : LowB N a c := fun hN => (h hN).trans (k (Nat.le_trans hN (h hN).size))
theorem LowB.of_below {N : Nat} {w w' : World} (h : Below w.heap.size w w') : LowB N w w' := fun hN => h.mono hN
theorem LowB.of_spill {N n : Nat} {T : TypeId} {w w' : World} (h : Spill N n T w w') : LowB N w w' := fun hN => h.below hN (Nat.le_refl _)
theorem LowB.of_grown {N : Nat} {row : Option Nat} {w w' : World} (hr : ∀ g, row = some g → N ≤ g) (h : w.grownBy w' row) : LowB N w w' :=
  fun hN => ⟨h.os, h.tape, h.output, h.size, fun k hk => h.block k (Nat.lt_of_lt_of_le hk hN) (fun e => by have := hr k (by first | exact e | exact e.symm); omega)⟩
theorem block_grown {w w' : World} {row : Option Nat} {g : Nat} {o : Obj} (h : w.heap[g]? = some o) (hg : w.grownBy w' row) (hne : row ≠ some g) : w'.heap[g]? = some o :=
  (hg.block g (Array.getElem?_eq_some_iff.1 h).1 (fun e => hne (by first | exact e | exact e.symm))).trans h
theorem sep_new {w w' : World} {b b' n n' size size' : Nat} {e e' : TypeId} {a v : Value} {xs ys : List Value} (h : w.ownsRow b e size a n xs) (k : w'.ownsRow b' e' size' v n' ys) (hb : w.heap.size ≤ b') : a.ownBlock = none ∨ a.ownBlock ≠ v.ownBlock := by
  by_cases hv : a.ownBlock = none
  · exact .inl hv
  · refine .inr fun e => ?_
    obtain ⟨g, hg⟩ := Option.ne_none_iff_exists'.1 hv
    have h1 := (h.lt g hg).2
    have h2 := (k.lt g (e.symm.trans hg)).1
    omega
theorem Spill.small {N n g : Nat} {T : TypeId} {w w' : World} {cs : Array Value} (h : Spill N n T w w') (hg : w.heap[g]? = some (.cells cs T (0, 0))) (hc : cs.size ≤ n) : w'.heap[g]? = some (.cells cs T (0, 0)) := by
  rcases h.block g (Array.getElem?_eq_some_iff.1 hg).1 with h1 | ⟨_, c1, c2, h1, h2, h3, h4⟩
  · exact h1.trans hg
  · rw [hg] at h1
    injection h1 with h1
    injection h1 with h1
    subst h1
    rw [List.take_of_length_le (by simpa [h3] using hc), List.take_of_length_le (by simpa using hc)] at h4
    rw [h2, Array.toList_inj.1 h4]
theorem list_app_full {P : Program} {w : World} {ops : Array Oper} {rest : List Oper} {o : Oper} {a : Act} {Q : Exit → Act → World → Prop} {t e : TypeId} {size bytes : Nat} (hE : Elt P t e size bytes) (s x : Operand)
    (hgd : o.guard = none) (ho : o.op = .call { callee := .builtin .append, args := #[s, x], argTypes := #[t, t] }) {v : Value} {n m base c : Nat} {ad : Addr} {xs news : List Value} (hs : a.eval s = v) (hx : a.eval x = .slice (some ad) m c)
    (hown : w.ownsRow base e size v n xs) (hl : news.length = m * size) (hnews : ∀ j u, news[j]? = some u → w.cell? (ad.add j) = some u) (h1 : ∀ u ∈ news, u.oneCell' = true) (hn : n + m ≤ 1099511627776) (hbase : base ≤ w.heap.size)
    (h : ∀ v' w', w'.ownsRow base e size v' (n + m) (xs ++ news) → Spill base (n * size) e w w' → w.grownBy w' v.ownBlock → (v'.ownBlock = v.ownBlock ∨ ∀ g, v'.ownBlock = some g → w.heap.size ≤ g) → wpList P ops Q rest (a.put o.dst v') w') : wpList P ops Q (o :: rest) a w :=
  wpList_plain hgd fun _ hK => wp_app_full hE s x ho hs hx hown hl hnews h1 hn hbase fun v' w' h2 h3 h4 h5 => hK _ _ (h v' w' h2 h3 h4 h5)
theorem sep_low {w : World} {b n size g : Nat} {e : TypeId} {v : Value} {xs : List Value} (h : w.ownsRow b e size v n xs) (hg : g < b) : v.ownBlock = none ∨ v.ownBlock ≠ some g := by
  by_cases hv : v.ownBlock = none
  · exact .inl hv
  · exact .inr fun e => by have := (h.lt g e).1; omega
theorem cells_strs {w : World} {b n g c : Nat} {l : List ByteArray} (h : w.ownsRow b 9 1 (.slice (some ⟨g, 0, none⟩) n c) n (l.map Value.string)) (hl : l.length = n) : ∀ j, j < n → w.cell? ⟨g, 0 + j, none⟩ = some (.string (l.getD j ByteArray.empty)) := fun j hj => by
  rw [Nat.zero_add, h.cellAt j (by rw [Nat.mul_one]; exact hj)]
  simp [List.getD_eq_getElem?_getD, hl, hj]
theorem cells_ints {w : World} {b n g c : Nat} {l : List Int} (h : w.ownsRow b 3 1 (.slice (some ⟨g, 0, none⟩) n c) n (l.map (Value.int .i64))) (hl : l.length = n) : ∀ j, j < n → w.cell? ⟨g, 0 + j, none⟩ = some (.int .i64 (l.getD j 0)) := fun j hj => by
  rw [Nat.zero_add, h.cellAt j (by rw [Nat.mul_one]; exact hj)]
  simp [List.getD_eq_getElem?_getD, hl, hj]
theorem best_rows {w : World} {b b' n : Nat} {v u : Value} {xs : List ByteArray} {ss : List Int} (h : w.ownsRow b 9 1 v n (xs.map Value.string)) (k : w.ownsRow b' 3 1 u n (ss.map (Value.int .i64))) (hx : xs.length = n) (hs : ss.length = n) (h0 : 0 < n) (hn : n ≤ 4611686018427387904) :
    Calls Try.prog 13 #[v, u] w fun e w' => ∃ q, e = .returned (.int .i64 (bestTo xs ss n)) ∧ w' = w.drewN q := by
  obtain ⟨g7, c7, rfl, _, _⟩ := (own_forms h).resolve_left (by rintro ⟨_, h, _⟩; omega)
  obtain ⟨g8, c8, rfl, _, _⟩ := (own_forms k).resolve_left (by rintro ⟨_, h, _⟩; omega)
  exact best_pos n g7 0 c7 g8 0 c8 xs ss hn w (cells_strs h hx) (cells_ints k hs)
def nameA (i : Nat) : ByteArray := ⟨#[110]⟩ ++ strOfNums [97 + (i : Int)]
def namesA (k : Nat) : List ByteArray := (List.range k).map nameA
def scoresA (ns : List Int) (k : Nat) : List Int := (List.range k).map fun i => ns.getD i 0 % 100
theorem namesA_succ (k : Nat) : namesA (k + 1) = namesA k ++ [nameA k] := by simp [namesA, List.range_succ]
theorem scoresA_succ (ns : List Int) (k : Nat) : scoresA ns (k + 1) = scoresA ns k ++ [ns.getD k 0 % 100] := by simp [scoresA, List.range_succ]

set_option maxHeartbeats 8000000 in
set_option maxRecDepth 100000 in
theorem add_any (v : Value) (ns : List Int) (at' by' : Int) (w : World) (hn : Nums w v ns) : Calls Try.prog 7 #[v, .int .i64 at', .int .i64 by'] w fun e w' => e = .returned (.bool true) ∧ Below w.heap.size w w' := by
  have HN := Lib.hid hn
  obtain ⟨pa, pc, rfl, hnl, _⟩ := hn
  go_enter Try.func7, Try.ntmps7
  go_wp2_with fail
  refine (known_any _).mono ?_
  rintro r w1 ⟨rfl, hb1⟩
  have HB1 := Lib.hid hb1
  clear hb1
  go_wp2
  go_loopw [7, 8, 9] (fun vn vs i wr => ∃ k : Nat, i = .int .i64 k ∧ k ≤ ns.length ∧ k ≤ 10 ∧ wr.ownsRow w.heap.size 9 1 vn k ((namesA k).map Value.string) ∧ wr.ownsRow w.heap.size 3 1 vs k ((scoresA ns k).map (Value.int .i64)) ∧ Below w.heap.size w wr) (fun _ _ i _ => 10 - (intOf i).toNat)
  case atStart => exact ⟨0, rfl, Nat.zero_le _, Nat.zero_le _, World.ownsRow_nil _ _ _ _, World.ownsRow_nil _ _ _ _, HB1.out⟩
  case round =>
    obtain ⟨k, rfl, hkn, hk10, hrn, hrs, hb⟩ := hrel
    have HRN := Lib.hid hrn
    have HRS := Lib.hid hrs
    have HB := Lib.hid hb
    clear hrn hrs hb
    by_cases hgo : k < ns.length ∧ k < 10
    · obtain ⟨hlt, h10⟩ := hgo
      have hlt' : (k : Int) < ns.length := by omega
      have h10' : (k : Int) < 10 := by omega
      obtain ⟨bb, off, rfl, hcl⟩ : ∃ bb off, pa = some ⟨bb, off, none⟩ ∧ ∀ w6, Below w.heap.size w w6 → w6.cell? ⟨bb, off + k, none⟩ = some (.int .i64 (ns.getD k 0)) := by
        obtain ⟨a', c', e, _, h⟩ := HN.out
        injection e with e1 e2 e3
        subst e1
        obtain ⟨bb, off, h1, h2⟩ := h k hlt
        exact ⟨bb, off, h1, fun w6 h6 => cell_below h2 h6⟩
      obtain ⟨nk, hnk⟩ : ∃ nk, ns.getD k 0 = nk := ⟨_, rfl⟩
      rw [hnk] at hcl
      have HNK := Lib.hid hnk
      have HCL := Lib.hid hcl
      have k97 : IntKind.i64.wrap (97 + (k : Int)) = 97 + k := kwid (by omega) (by omega)
      have k8 : IntKind.u8.wrap (97 + (k : Int)) = 97 + k := IntWalk.u8_in _ (by omega)
      have HK10 := Lib.hid hk10
      clear hnk hcl
      go_upto_region 8 with fail
      have hdr : wr.drew.heap.size = wr.heap.size := rfl
      have hN0 : w.heap.size ≤ wr.heap.size := HB.out.size
      have HN0 := Lib.hid hN0
      have hne := own_type_ne HRS.out HRN.out (by decide)
      have HNE := Lib.hid hne
      have HL7 := Lib.hid (fun g (h : Value.ownBlock u7 = some g) => HRN.out.lt g h)
      have HL8 := Lib.hid (fun g (h : Value.ownBlock u8 = some g) => HRS.out.lt g h)
      have ksz : (strOfNums [97 + (k : Int)]).size = 1 := strOfNums_size _
      clear hdr hN0 hne
      refine' Se.wp_region_pass (fun w w' => Below w.heap.size w w') (LowB w.heap.size) 17 (by kernel_rfl) (by kernel_rfl) (by kernel_rfl) (by kernel_rfl) (by kernel_rfl) (by kernel_rfl)
        (fun w => LowB.refl _ _) (fun h k => LowB.trans h k) [(fun w3 => w3.ownsRow w.heap.size 9 1 u7 k ((namesA k).map Value.string), 8), (fun w3 => w3.ownsRow w.heap.size 3 1 u8 k ((scoresA ns k).map (Value.int .i64)), 16)] [] ?_ ?_ (by simp) (fun vals => ?_)
      case refine'_2 =>
        simp only [List.forall_mem_cons]
        exact ⟨own_drew HRN.out, own_drew HRS.out, by simp⟩
      case refine'_3 =>
        simp only [List.forall_mem_cons]
        exact ⟨fun w1 w2 k h => own_below h k, fun w1 w2 k h => own_below h k, by simp⟩
      rotate_left
      simp only [List.take_succ_cons, List.take_zero, List.drop_succ_cons, List.drop_zero]
      (apply Se.pas_x (fun _ _ h => LowB.of_below h) rfl; (focus rfl); (focus (intro w6 hR hD hP K hK; replace hK := Lib.hid hK; skip; clear hR hD hP; go_simp; exact hK.out _ (Below.refl _ _))); simp only [Act.put, List.setIfInBounds_toArray, List.set_cons_zero, List.set_cons_succ, Nat.reduceAdd, List.cons_append, List.nil_append])
      (apply Se.pas_x (fun _ _ h => LowB.of_below h) rfl; (focus rfl); (focus (intro w6 hR hD hP K hK; replace hK := Lib.hid hK; skip; clear hR hD hP; go_simp; exact hK.out _ (Below.refl _ _))); simp only [Act.put, List.setIfInBounds_toArray, List.set_cons_zero, List.set_cons_succ, Nat.reduceAdd, List.cons_append, List.nil_append])
      (apply Se.pas_x (fun _ _ h => LowB.of_below h) rfl; (focus rfl); (focus (intro w6 hR hD hP K hK; replace hK := Lib.hid hK; skip; clear hR hD hP; go_simp; exact hK.out _ (Below.refl _ _))); simp only [Act.put, List.setIfInBounds_toArray, List.set_cons_zero, List.set_cons_succ, Nat.reduceAdd, List.cons_append, List.nil_append])
      (apply Se.pas_x (fun _ _ h => LowB.of_below h) rfl; (focus rfl); (focus (intro w6 hR hD hP K hK; replace hK := Lib.hid hK; skip; clear hR hD hP; go_simp; exact hK.out _ (Below.refl _ _))); simp only [Act.put, List.setIfInBounds_toArray, List.set_cons_zero, List.set_cons_succ, Nat.reduceAdd, List.cons_append, List.nil_append])
      (apply Se.pas_r (fun v w' => ∃ g, v = .slice (some ⟨g, 0, none⟩) 1 1 ∧ Value.ownBlock u7 ≠ some g ∧ Value.ownBlock u8 ≠ some g ∧ w'.heap[g]? = some (.cells #[.int .u8 (97 + (k : Int))] 5 (0, 0))) (fun _ _ h => LowB.of_below h) rfl (fun v w1 w2 h k => by obtain ⟨g, h1, h2, h4, h3⟩ := h; exact ⟨g, h1, h2, h4, block_below h3 k⟩); (focus rfl); (focus (intro w6 hR hD hP K hK; replace hK := Lib.hid hK; have hown := hP _ (List.mem_cons_self ..) (.inr (by kernel_rfl)); have hown2 := hP _ (List.mem_cons_of_mem _ (List.mem_cons_self ..)) (.inr (by kernel_rfl)); have HO := Lib.hid (fun e => Nat.lt_irrefl _ (hown.lt _ e).2 : Value.ownBlock u7 ≠ some w6.heap.size); have HO2 := Lib.hid (fun e => Nat.lt_irrefl _ (hown2.lt _ e).2 : Value.ownBlock u8 ≠ some w6.heap.size); clear hR hD hP hown hown2; go_simp; exact hK.out _ _ (below_alloc' (Below.refl _ _) _) ⟨_, rfl, HO.out, HO2.out, alloc_at _ _⟩)); simp only [Act.put, List.setIfInBounds_toArray, List.set_cons_zero, List.set_cons_succ, Nat.reduceAdd, List.cons_append, List.nil_append])
      (apply Se.pas_x (fun _ _ h => LowB.of_below h) rfl; (focus rfl); (focus (intro w6 hR hD hP K hK; replace hK := Lib.hid hK; obtain ⟨g, eg, _, _, hg⟩ : ∃ g, vals 4 = .slice (some ⟨g, 0, none⟩) 1 1 ∧ Value.ownBlock u7 ≠ some g ∧ Value.ownBlock u8 ≠ some g ∧ w6.heap[g]? = some (.cells #[.int .u8 (97 + (k : Int))] 5 (0, 0)) := hD 4 (by kernel_rfl); simp only [eg] at hK ⊢; have kc : (convert 37 9 (.slice (some ⟨g, 0, none⟩) 1 1)).run Try.prog w6 = .ok (.string (strOfNums [97 + (k : Int)])) w6 := run_convert_bytes_arg _ 37 5 Try.underlying37 Try.underlying5 _ 0 1 1 [97 + (k : Int)] rfl (fun i hi => by obtain rfl : i = 0 := (by omega); exact cell_of_block hg 0 _ rfl) 9 Try.underlying9; clear hD hP hR eg hg; go_simp; exact hK.out _ (Below.refl _ _))); simp only [Act.put, List.setIfInBounds_toArray, List.set_cons_zero, List.set_cons_succ, Nat.reduceAdd, List.cons_append, List.nil_append])
      (apply Se.pas_x (fun _ _ h => LowB.of_below h) rfl; (focus rfl); (focus (intro w6 hR hD hP K hK; replace hK := Lib.hid hK; skip; clear hR hD hP; go_simp; exact hK.out _ (Below.refl _ _))); simp only [Act.put, List.setIfInBounds_toArray, List.set_cons_zero, List.set_cons_succ, Nat.reduceAdd, List.cons_append, List.nil_append])
      (apply Se.pas_r (fun v w' => ∃ g, v = .slice (some ⟨g, 0, none⟩) 1 1 ∧ Value.ownBlock u7 ≠ some g ∧ Value.ownBlock u8 ≠ some g ∧ w'.heap[g]? = some (.cells #[.string (nameA k)] 9 (0, 0))) (fun _ _ h => LowB.of_below h) rfl (fun v w1 w2 h k => by obtain ⟨g, h1, h2, h4, h3⟩ := h; exact ⟨g, h1, h2, h4, block_below h3 k⟩); (focus rfl); (focus (intro w6 hR hD hP K hK; replace hK := Lib.hid hK; have hown := hP _ (List.mem_cons_self ..) (.inr (by kernel_rfl)); have hown2 := hP _ (List.mem_cons_of_mem _ (List.mem_cons_self ..)) (.inr (by kernel_rfl)); have HO := Lib.hid (fun e => Nat.lt_irrefl _ (hown.lt _ e).2 : Value.ownBlock u7 ≠ some w6.heap.size); have HO2 := Lib.hid (fun e => Nat.lt_irrefl _ (hown2.lt _ e).2 : Value.ownBlock u8 ≠ some w6.heap.size); clear hR hD hP hown hown2; go_simp; exact hK.out _ _ (below_alloc' (Below.refl _ _) _) ⟨_, rfl, HO.out, HO2.out, alloc_at _ _⟩)); simp only [Act.put, List.setIfInBounds_toArray, List.set_cons_zero, List.set_cons_succ, Nat.reduceAdd, List.cons_append, List.nil_append])
      (apply Se.pas_s (fun w w' => w.grownBy w' (Value.ownBlock u7)) (fun v w' => w'.ownsRow w.heap.size 9 1 v (k + 1) ((namesA (k + 1)).map Value.string) ∧ (v.ownBlock = Value.ownBlock u7 ∨ ∀ g, v.ownBlock = some g → wr.heap.size ≤ g)) (fun _ _ h => LowB.of_grown (fun g hg => (HL7.out g hg).1) h) rfl (fun v w1 w2 h k => ⟨own_below h.1 k, h.2⟩); (focus rfl); (focus (intro w6 hR hD hP K hK; replace hK := Lib.hid hK; obtain ⟨g, eg, _, _, hg2⟩ : ∃ g, vals 7 = .slice (some ⟨g, 0, none⟩) 1 1 ∧ Value.ownBlock u7 ≠ some g ∧ Value.ownBlock u8 ≠ some g ∧ w6.heap[g]? = some (.cells #[.string (nameA k)] 9 (0, 0)) := hD 7 (by kernel_rfl); have hown := hP _ (List.mem_cons_self ..) (.inl rfl); have hsz : wr.heap.size ≤ w6.heap.size := (hR HN0.out).size; clear hD hP hR; simp only [eg] at hK ⊢; exact wp_app_full elt_strs (.tmp 29) (.tmp 36) rfl (v := u7) (n := k) (m := 1) (c := 1) (ad := ⟨g, 0, none⟩) (news := [.string (nameA k)]) rfl rfl hown rfl (news_row hg2) (by simp [Value.oneCell']) (by omega) (Nat.le_trans HN0.out hsz) (fun v' w' h1 h2 h3 h4 => hK.out _ _ h3 ⟨by rw [namesA_succ, List.map_append]; exact h1, h4.imp id fun h g hg => Nat.le_trans hsz (h g hg)⟩))); simp only [Act.put, List.setIfInBounds_toArray, List.set_cons_zero, List.set_cons_succ, Nat.reduceAdd, List.cons_append, List.nil_append])
      (apply Se.pas_x (fun _ _ h => LowB.of_below h) rfl; (focus rfl); (focus (intro w6 hR hD hP K hK; replace hK := Lib.hid hK; skip; clear hR hD hP; go_simp; exact hK.out _ (Below.refl _ _))); simp only [Act.put, List.setIfInBounds_toArray, List.set_cons_zero, List.set_cons_succ, Nat.reduceAdd, List.cons_append, List.nil_append])
      (apply Se.pas_x (fun _ _ h => LowB.of_below h) rfl; (focus rfl); (focus (intro w6 hR hD hP K hK; replace hK := Lib.hid hK; skip; clear hR hD hP; go_simp; exact hK.out _ (Below.refl _ _))); simp only [Act.put, List.setIfInBounds_toArray, List.set_cons_zero, List.set_cons_succ, Nat.reduceAdd, List.cons_append, List.nil_append])
      (apply Se.pas_x (fun _ _ h => LowB.of_below h) rfl; (focus rfl); (focus (intro w6 hR hD hP K hK; replace hK := Lib.hid hK; skip; clear hR hD hP; go_simp; exact hK.out _ (Below.refl _ _))); simp only [Act.put, List.setIfInBounds_toArray, List.set_cons_zero, List.set_cons_succ, Nat.reduceAdd, List.cons_append, List.nil_append])
      (apply Se.pas_x (fun _ _ h => LowB.of_below h) rfl; (focus rfl); (focus (intro w6 hR hD hP K hK; replace hK := Lib.hid hK; skip; clear hR hD hP; go_simp; exact hK.out _ (Below.refl _ _))); simp only [Act.put, List.setIfInBounds_toArray, List.set_cons_zero, List.set_cons_succ, Nat.reduceAdd, List.cons_append, List.nil_append])
      (apply Se.pas_x (fun _ _ h => LowB.of_below h) rfl; (focus rfl); (focus (intro w6 hR hD hP K hK; replace hK := Lib.hid hK; have e := HCL.out w6 (HB.out.drew.trans (hR HN0.out)); clear hR hD hP; go_simp; exact hK.out _ (Below.refl _ _))); simp only [Act.put, List.setIfInBounds_toArray, List.set_cons_zero, List.set_cons_succ, Nat.reduceAdd, List.cons_append, List.nil_append])
      (apply Se.pas_x (fun _ _ h => LowB.of_below h) rfl; (focus rfl); (focus (intro w6 hR hD hP K hK; replace hK := Lib.hid hK; clear hR hD hP; go_simp; refine (within_any _ _ (by omega) (by omega) _).mono ?_; rintro e w' ⟨rfl, rfl⟩; exact hK.out _ (Below.refl _ _))); simp only [Act.put, List.setIfInBounds_toArray, List.set_cons_zero, List.set_cons_succ, Nat.reduceAdd, List.cons_append, List.nil_append])
      (apply Se.pas_r (fun v w' => ∃ g, v = .slice (some ⟨g, 0, none⟩) 1 1 ∧ Value.ownBlock u8 ≠ some g ∧ w'.heap[g]? = some (.cells #[.int .i64 (nk % 100)] 3 (0, 0))) (fun _ _ h => LowB.of_below h) rfl (fun v w1 w2 h k => by obtain ⟨g, h1, h2, h3⟩ := h; exact ⟨g, h1, h2, block_below h3 k⟩); (focus rfl); (focus (intro w6 hR hD hP K hK; replace hK := Lib.hid hK; have hown := hP _ (List.mem_cons_of_mem _ (List.mem_cons_self ..)) (.inr (by kernel_rfl)); have HO := Lib.hid (fun e => Nat.lt_irrefl _ (hown.lt _ e).2 : Value.ownBlock u8 ≠ some w6.heap.size); clear hR hD hP hown; go_simp; exact hK.out _ _ (below_alloc' (Below.refl _ _) _) ⟨_, rfl, HO.out, alloc_at _ _⟩)); simp only [Act.put, List.setIfInBounds_toArray, List.set_cons_zero, List.set_cons_succ, Nat.reduceAdd, List.cons_append, List.nil_append])
      (apply Se.pas_s (fun w w' => w.grownBy w' (Value.ownBlock u8)) (fun v w' => w'.ownsRow w.heap.size 3 1 v (k + 1) ((scoresA ns (k + 1)).map (Value.int .i64))) (fun _ _ h => LowB.of_grown (fun g hg => (HL8.out g hg).1) h) rfl (fun v w1 w2 h k => own_below h k); (focus rfl); (focus (intro w6 hR hD hP K hK; replace hK := Lib.hid hK; obtain ⟨g, eg, _, hg2⟩ : ∃ g, vals 15 = .slice (some ⟨g, 0, none⟩) 1 1 ∧ Value.ownBlock u8 ≠ some g ∧ w6.heap[g]? = some (.cells #[.int .i64 (nk % 100)] 3 (0, 0)) := hD 15 (by kernel_rfl); have hown := hP _ (List.mem_cons_of_mem _ (List.mem_cons_self ..)) (.inl rfl); have hsz : wr.heap.size ≤ w6.heap.size := (hR HN0.out).size; clear hD hP hR; simp only [eg] at hK ⊢; exact wp_app_full elt_ints (.tmp 38) (.tmp 44) rfl (v := u8) (n := k) (m := 1) (c := 1) (ad := ⟨g, 0, none⟩) (news := [.int .i64 (nk % 100)]) rfl rfl hown rfl (news_row hg2) (by simp [Value.oneCell']) (by omega) (Nat.le_trans HN0.out hsz) (fun v' w' h1 h2 h3 h4 => hK.out _ _ h3 (by rw [scoresA_succ, List.map_append, HNK.out]; exact h1)))); simp only [Act.put, List.setIfInBounds_toArray, List.set_cons_zero, List.set_cons_succ, Nat.reduceAdd, List.cons_append, List.nil_append])
      have hne2 := own_type_ne HRN.out HRS.out (by decide)
      have HNE2 := Lib.hid hne2
      clear hne2
      refine Se.pas_ends ?_ ?_ fun w6 hR hp _ => ?_
      · simp only [Se.AllK, true_and, and_true, true_or, or_true, Nat.reduceAdd]
        refine ⟨⟨.inr (.inr ?_), .inr (.inr ?_), .inr (.inl (by kernel_rfl)), .inr (.inl (by kernel_rfl))⟩, .inr (.inr ?_), .inr (.inr ?_), .inr (.inr ?_), .inr (.inr ?_)⟩
        · intro v w1 w2 _ hg h
          obtain ⟨g, h1, h2, h4, h3⟩ := h
          exact ⟨g, h1, h2, h4, block_grown h3 hg h2⟩
        · intro v w1 w2 _ hg h
          obtain ⟨g, h1, h2, h4, h3⟩ := h
          exact ⟨g, h1, h2, h4, block_grown h3 hg h2⟩
        · intro v w1 w2 _ hg h
          obtain ⟨g, h1, h2, h4, h3⟩ := h
          exact ⟨g, h1, h2, h4, block_grown h3 hg h4⟩
        · intro v w1 w2 _ hg h
          obtain ⟨g, h1, h2, h4, h3⟩ := h
          exact ⟨g, h1, h2, h4, block_grown h3 hg h4⟩
        · intro v w1 w2 _ hg h
          refine ⟨h.1.kept hg ?_, h.2⟩
          by_cases hv : v.ownBlock = none
          · exact .inl hv
          · refine .inr fun e => ?_
            obtain ⟨g, hg'⟩ := Option.ne_none_iff_exists'.1 hv
            rcases h.2 with h2 | h2
            · rcases HNE.out with h3 | h3
              · rw [h3] at e; exact hv e
              · exact h3 (e.symm.trans h2)
            · have h5 := (HL8.out g (e.symm.trans hg')).2
              have h6 := h2 g hg'
              omega
        · intro v w1 w2 _ hg h
          obtain ⟨g, h1, h2, h3⟩ := h
          exact ⟨g, h1, h2, block_grown h3 hg h2⟩
      · simp only [Se.AllK, true_and, and_true, Nat.reduceAdd]
        refine ⟨fun e he => ?_, fun e he => ?_⟩
        · simp only [List.mem_cons, List.not_mem_nil, or_false] at he
          rcases he with rfl | rfl
          · exact .inl rfl
          · exact .inr fun w1 w2 _ hg h => World.ownsRow.kept h hg HNE.out
        · simp only [List.mem_cons, List.not_mem_nil, or_false] at he
          rcases he with rfl | rfl
          · exact .inr fun w1 w2 _ hg h => World.ownsRow.kept h hg HNE2.out
          · exact .inl rfl
      have h8 : w6.ownsRow w.heap.size 9 1 (vals 8) (k + 1) ((namesA (k + 1)).map Value.string) ∧ _ := hp 8 (by simp)
      have h16 : w6.ownsRow w.heap.size 3 1 (vals 16) (k + 1) ((scoresA ns (k + 1)).map (Value.int .i64)) := hp 16 (by simp)
      have H8 := Lib.hid h8.1
      have H16 := Lib.hid h16
      have HB6 := Lib.hid (HB.out.drew.trans (hR HN0.out))
      clear hp h8 h16 hR
      go_wp2
      go_roundw
      case rel => exact ⟨k + 1, by go_num, by omega, by omega, H8.out, H16.out, HB6.out⟩
      case measure => simp [intOf]; omega
    · have hor : ¬ k < ns.length ∨ (k < ns.length ∧ ¬ k < 10) := by omega
      by_cases hk0 : k = 0
      · subst hk0
        have h1' : ¬ ((0 : Nat) : Int) < ns.length := by omega
        obtain ⟨xa, xc, rfl⟩ : ∃ a c, u7 = .slice a 0 c := by
          rcases own_forms HRN.out with ⟨rfl, _⟩ | ⟨g, c, rfl, _⟩
          · exact ⟨_, _, rfl⟩
          · exact ⟨_, _, rfl⟩
        go_wp2
        go_ret
        exact ⟨rfl, HB.out⟩
      · have hor' : (¬ (k : Int) < ns.length) ∨ ((k : Int) < ns.length ∧ ¬ (k : Int) < 10) := by omega
        clear hor
        rcases hor' with h1' | ⟨h1', h2'⟩
        all_goals
          have hk1 : 1 ≤ k := by omega
          obtain ⟨g7, c7, rfl, _, hg7⟩ := (own_forms HRN.out).resolve_left (by rintro ⟨_, h, _⟩; omega)
          obtain ⟨g8, c8, rfl, _, hg8⟩ := (own_forms HRS.out).resolve_left (by rintro ⟨_, h, _⟩; omega)
          have hnl : (namesA k).length = k := by simp [namesA]
          have hsl : (scoresA ns k).length = k := by simp [scoresA]
          have hk0' : (k : Int) ≠ 0 := by omega
          have hkb : ((k : Int) == 0) = false := beq_eq_false_iff_ne.mpr hk0'
          have hc7 : ∀ j, j < k → wr.cell? ⟨g7, 0 + j, none⟩ = some (.string ((namesA k).getD j ByteArray.empty)) := fun j hj => by
            rw [Nat.zero_add, HRN.out.cellAt j (by rw [Nat.mul_one]; exact hj)]
            simp [List.getD_eq_getElem?_getD, hnl, hj]
          have hc8 : ∀ j, j < k → wr.cell? ⟨g8, 0 + j, none⟩ = some (.int .i64 ((scoresA ns k).getD j 0)) := fun j hj => by
            rw [Nat.zero_add, HRS.out.cellAt j (by rw [Nat.mul_one]; exact hj)]
            simp [List.getD_eq_getElem?_getD, hsl, hj]
          have HC7 := Lib.hid hc7
          have HC8 := Lib.hid hc8
          have HNL := Lib.hid hnl
          have HSL := Lib.hid hsl
          clear hc7 hc8 hnl hsl hg7 hg8
          go_wp2_with fail
          refine (best_pos k g7 0 c7 g8 0 c8 (namesA k) (scoresA ns k) (by omega) wr HC7.out HC8.out).mono ?_
          rintro e w2 ⟨q, rfl, rfl⟩
          have hbd := bestTo_bd (namesA k) (scoresA ns k) k
          have hb0 := hbd.2.2 (by omega)
          obtain ⟨kb, hkb2⟩ : ∃ kb : Nat, bestTo (namesA k) (scoresA ns k) k = kb := ⟨(bestTo (namesA k) (scoresA ns k) k).toNat, by omega⟩
          rw [hkb2] at hbd ⊢
          have hkk : kb < k := by omega
          have HKB := Lib.hid hkb2
          have i1 : ¬ (kb : Int) < 0 := by omega
          have i2 : (kb : Int) < k := by omega
          have i3 : ¬ (k : Int) ≤ kb := by omega
          clear hbd hb0 hkb2
          go_wp2_with fail
          refine (within_any _ _ (by omega) (by omega) _).mono ?_
          rintro e w3 ⟨rfl, rfl⟩
          have kd : IntKind.i64.wrap (1 + by' % 50) = 1 + by' % 50 := kwid (by omega) (by omega)
          obtain ⟨d, hd⟩ : ∃ d, 1 + by' % 50 = d := ⟨_, rfl⟩
          have hd1 : 1 ≤ d ∧ d ≤ 50 := by omega
          rw [hd] at kd
          have HD1 := Lib.hid hd1
          go_upto_region 15 with fail
          have hcw : ∀ w6, Below wr.heap.size (wr.drewN q).drew w6 → w6.cell? ⟨g8, kb, none⟩ = some (.int .i64 ((scoresA ns k).getD kb 0)) := fun w6 h6 => cell_below (w := (wr.drewN q).drew) (by have := HC8.out kb hkk; rw [Nat.zero_add] at this; exact this) h6
          have HCW := Lib.hid hcw
          obtain ⟨x, hx⟩ : ∃ x, (scoresA ns k).getD kb 0 = x := ⟨_, rfl⟩
          have hxb : 0 ≤ x ∧ x < 100 := by rw [← hx]; simp only [scoresA, List.getD_eq_getElem?_getD, List.getElem?_map, List.getElem?_range hkk, Option.map_some, Option.getD_some]; omega
          have kx1 : IntKind.i64.wrap (x - d) = x - d := kwid (by omega) (by omega)
          have kx2 : IntKind.i64.wrap (x + d) = x + d := kwid (by omega) (by omega)
          have HXB := Lib.hid hxb
          clear hxb
          rw [hx] at hcw
          have HCX := Lib.hid hcw
          clear hcw HCW
          refine' Se.wp_region_pass (fun w w' => Below w.heap.size w w') (LowB wr.heap.size) 21 (by kernel_rfl) (by kernel_rfl) (by kernel_rfl) (by kernel_rfl) (by kernel_rfl) (by kernel_rfl)
            (fun w => LowB.refl _ _) (fun h k => LowB.trans h k) [] [(10, 13, fun a b => a.ownBlock = none ∨ a.ownBlock ≠ b.ownBlock)] (by simp) (by simp) ?_ (fun vals => ?_)
          case refine'_2 =>
            intro e he
            simp only [List.mem_cons, List.not_mem_nil, or_false] at he
            subst he
            exact ⟨by kernel_rfl, by decide, by decide⟩
          rotate_left
          simp only [List.take_succ_cons, List.take_zero, List.drop_succ_cons, List.drop_zero]
          (apply Se.pas_r (fun v w' => ∃ g, v = .slice (some ⟨g, 0, none⟩) 0 0 ∧ wr.heap.size ≤ g ∧ w'.heap[g]? = some (.cells #[] 3 (0, 0))) (fun _ _ h => LowB.of_below h) rfl (fun v w1 w2 h k => by obtain ⟨g, h1, h2, h3⟩ := h; exact ⟨g, h1, h2, block_below h3 k⟩); (focus rfl); (focus (intro w6 hR hD hP K hK; replace hK := Lib.hid hK; have hsz := Lib.hid ((hR (Nat.le_refl _)).size); clear hR hD hP; go_simp; exact hK.out _ _ (below_alloc' (Below.refl _ _) _) ⟨_, rfl, hsz.out, alloc_at _ _⟩)); simp only [Act.put, List.setIfInBounds_toArray, List.set_cons_zero, List.set_cons_succ, Nat.reduceAdd, List.cons_append, List.nil_append])
          (apply Se.pas_x (fun _ _ h => LowB.of_below h) rfl; (focus rfl); (focus (intro w6 hR hD hP K hK; replace hK := Lib.hid hK; skip; clear hR hD hP; go_simp; exact hK.out _ (Below.refl _ _))); simp only [Act.put, List.setIfInBounds_toArray, List.set_cons_zero, List.set_cons_succ, Nat.reduceAdd, List.cons_append, List.nil_append])
          (apply Se.pas_r (fun v w' => w'.ownsRow wr.heap.size 3 1 v k ((scoresA ns k).map (Value.int .i64))) (fun _ _ h => LowB.of_below h) rfl (fun v w1 w2 h k => own_below h k); (focus rfl); (focus (intro w6 hR hD hP K hK; replace hK := Lib.hid hK; obtain ⟨g, eg, hg1, hg2⟩ : ∃ g, vals 0 = .slice (some ⟨g, 0, none⟩) 0 0 ∧ wr.heap.size ≤ g ∧ w6.heap[g]? = some (.cells #[] 3 (0, 0)) := hD 0 (by kernel_rfl); have hcl : ∀ j u, ((scoresA ns k).map (Value.int .i64))[j]? = some u → w6.cell? ((⟨g8, 0, none⟩ : Addr).add j) = some u := (fun j u hu => cell_below (w := (wr.drewN q).drew) (own_cells HRS.out j u hu) (hR (Nat.le_refl _))); clear hD hP hR; simp only [eg] at hK ⊢; exact wp_app_new elt_ints (.tmp 63) (.tmp 64) rfl (g := g) (m := k) (c := c8) (b := wr.heap.size) (ax := some ⟨g8, 0, none⟩) rfl rfl hg2 hg1 (.inr ⟨_, rfl, hcl⟩) (by simp [scoresA]) (by intro u hu; obtain ⟨z, _, rfl⟩ := List.mem_map.1 hu; rfl) (by omega) (fun v' w' h3 h4 => hK.out _ _ h4 h3))); simp only [Act.put, List.setIfInBounds_toArray, List.set_cons_zero, List.set_cons_succ, Nat.reduceAdd, List.cons_append, List.nil_append])
          (apply Se.pas_x (fun _ _ h => LowB.of_below h) rfl; (focus rfl); (focus (intro w6 hR hD hP K hK; replace hK := Lib.hid hK; skip; clear hR hD hP; go_simp; exact hK.out _ (Below.refl _ _))); simp only [Act.put, List.setIfInBounds_toArray, List.set_cons_zero, List.set_cons_succ, Nat.reduceAdd, List.cons_append, List.nil_append])
          (apply Se.pas_x (fun _ _ h => LowB.of_below h) rfl; (focus rfl); (focus (intro w6 hR hD hP K hK; replace hK := Lib.hid hK; skip; clear hR hD hP; go_simp; exact hK.out _ (Below.refl _ _))); simp only [Act.put, List.setIfInBounds_toArray, List.set_cons_zero, List.set_cons_succ, Nat.reduceAdd, List.cons_append, List.nil_append])
          (apply Se.pas_x (fun _ _ h => LowB.of_below h) rfl; (focus rfl); (focus (intro w6 hR hD hP K hK; replace hK := Lib.hid hK; skip; clear hR hD hP; go_simp; exact hK.out _ (Below.refl _ _))); simp only [Act.put, List.setIfInBounds_toArray, List.set_cons_zero, List.set_cons_succ, Nat.reduceAdd, List.cons_append, List.nil_append])
          (apply Se.pas_x (fun _ _ h => LowB.of_below h) rfl; (focus rfl); (focus (intro w6 hR hD hP K hK; replace hK := Lib.hid hK; have e := HCX.out w6 (hR (Nat.le_refl _)); clear hR hD hP; go_simp; exact hK.out _ (Below.refl _ _))); simp only [Act.put, List.setIfInBounds_toArray, List.set_cons_zero, List.set_cons_succ, Nat.reduceAdd, List.cons_append, List.nil_append])
          (apply Se.pas_x (fun _ _ h => LowB.of_below h) rfl; (focus rfl); (focus (intro w6 hR hD hP K hK; replace hK := Lib.hid hK; skip; clear hR hD hP; go_simp; exact hK.out _ (Below.refl _ _))); simp only [Act.put, List.setIfInBounds_toArray, List.set_cons_zero, List.set_cons_succ, Nat.reduceAdd, List.cons_append, List.nil_append])
          (apply Se.pas_x (fun _ _ h => LowB.of_below h) rfl; (focus rfl); (focus (intro w6 hR hD hP K hK; replace hK := Lib.hid hK; skip; clear hR hD hP; go_simp; exact hK.out _ (Below.refl _ _))); simp only [Act.put, List.setIfInBounds_toArray, List.set_cons_zero, List.set_cons_succ, Nat.reduceAdd, List.cons_append, List.nil_append])
          (apply Se.pas_r (fun v w' => ∃ g, v = .slice (some ⟨g, 0, none⟩) 1 1 ∧ wr.heap.size ≤ g ∧ w'.heap[g]? = some (.cells #[.int .i64 (x - d)] 3 (0, 0))) (fun _ _ h => LowB.of_below h) rfl (fun v w1 w2 h k => by obtain ⟨g, h1, h2, h3⟩ := h; exact ⟨g, h1, h2, block_below h3 k⟩); (focus rfl); (focus (intro w6 hR hD hP K hK; replace hK := Lib.hid hK; have hsz := Lib.hid ((hR (Nat.le_refl _)).size); clear hR hD hP; go_simp; exact hK.out _ _ (below_alloc' (Below.refl _ _) _) ⟨_, rfl, hsz.out, alloc_at _ _⟩)); simp only [Act.put, List.setIfInBounds_toArray, List.set_cons_zero, List.set_cons_succ, Nat.reduceAdd, List.cons_append, List.nil_append])
          (apply Se.pas_s (Spill wr.heap.size (k * 1) 3) (fun v w' => w'.ownsRow wr.heap.size 3 1 v (k + 1) (((scoresA ns k).map (Value.int .i64) ++ [Value.int .i64 (x - d)] : List Value))) (fun _ _ h => LowB.of_spill h) rfl (fun v w1 w2 h k => own_below h k); (focus rfl); (focus (intro w6 hR hD hP K hK; replace hK := Lib.hid hK; obtain ⟨g, eg, _, hg2⟩ : ∃ g, vals 9 = .slice (some ⟨g, 0, none⟩) 1 1 ∧ wr.heap.size ≤ g ∧ w6.heap[g]? = some (.cells #[.int .i64 (x - d)] 3 (0, 0)) := hD 9 (by kernel_rfl); have hown : w6.ownsRow wr.heap.size 3 1 (vals 2) k ((scoresA ns k).map (Value.int .i64)) := hD 2 (by kernel_rfl); have hsz := (hR (Nat.le_refl _)).size; clear hD hP hR; simp only [eg] at hK ⊢; exact wp_app_spill elt_ints (.tmp 65) (.tmp 72) rfl (v := vals 2) (n := k) (m := 1) (c := 1) (ad := ⟨g, 0, none⟩) (news := [.int .i64 (x - d)]) rfl rfl hown rfl (news_row hg2) (by simp [Value.oneCell']) (by omega) hsz (fun v' w' h3 h4 => hK.out _ _ h4 h3))); simp only [Act.put, List.setIfInBounds_toArray, List.set_cons_zero, List.set_cons_succ, Nat.reduceAdd, List.cons_append, List.nil_append])
          (apply Se.pas_r (fun v w' => ∃ g, v = .slice (some ⟨g, 0, none⟩) 0 0 ∧ wr.heap.size ≤ g ∧ w'.heap[g]? = some (.cells #[] 3 (0, 0))) (fun _ _ h => LowB.of_below h) rfl (fun v w1 w2 h k => by obtain ⟨g, h1, h2, h3⟩ := h; exact ⟨g, h1, h2, block_below h3 k⟩); (focus rfl); (focus (intro w6 hR hD hP K hK; replace hK := Lib.hid hK; have hsz := Lib.hid ((hR (Nat.le_refl _)).size); clear hR hD hP; go_simp; exact hK.out _ _ (below_alloc' (Below.refl _ _) _) ⟨_, rfl, hsz.out, alloc_at _ _⟩)); simp only [Act.put, List.setIfInBounds_toArray, List.set_cons_zero, List.set_cons_succ, Nat.reduceAdd, List.cons_append, List.nil_append])
          (apply Se.pas_x (fun _ _ h => LowB.of_below h) rfl; (focus rfl); (focus (intro w6 hR hD hP K hK; replace hK := Lib.hid hK; skip; clear hR hD hP; go_simp; exact hK.out _ (Below.refl _ _))); simp only [Act.put, List.setIfInBounds_toArray, List.set_cons_zero, List.set_cons_succ, Nat.reduceAdd, List.cons_append, List.nil_append])
          (apply Se.pas_p (fun v w' => w'.ownsRow wr.heap.size 3 1 v k ((scoresA ns k).map (Value.int .i64))) (fun _ _ h => LowB.of_below h) rfl (fun v w1 w2 h k => own_below h k); (focus (intro w6 hR hD hP K hK; replace hK := Lib.hid hK; obtain ⟨g, eg, hg1, hg2⟩ : ∃ g, vals 11 = .slice (some ⟨g, 0, none⟩) 0 0 ∧ wr.heap.size ≤ g ∧ w6.heap[g]? = some (.cells #[] 3 (0, 0)) := hD 11 (by kernel_rfl); have h10 : w6.ownsRow wr.heap.size 3 1 (vals 10) (k + 1) ((scoresA ns k).map (Value.int .i64) ++ [Value.int .i64 (x - d)] : List Value) := hD 10 (by kernel_rfl); have hcl : ∀ j u, ((scoresA ns k).map (Value.int .i64))[j]? = some u → w6.cell? ((⟨g8, 0, none⟩ : Addr).add j) = some u := (fun j u hu => cell_below (w := (wr.drewN q).drew) (own_cells HRS.out j u hu) (hR (Nat.le_refl _))); have hsz := (hR (Nat.le_refl _)).size; clear hD hP hR; simp only [eg] at hK ⊢; exact wp_app_empty elt_ints (.tmp 74) (.tmp 75) rfl (g := g) (m := k) (c := c8) (ax := some ⟨g8, 0, none⟩) rfl rfl (.inr ⟨_, rfl, hcl⟩) (by simp [scoresA]) (by intro u hu; obtain ⟨z, _, rfl⟩ := List.mem_map.1 hu; rfl) (by omega) (fun v' w' h3 h4 => hK.out _ _ h4 (own_base (h3.resolve_left (by rintro ⟨h, _⟩; omega)) hsz) (by intro e he _; obtain rfl := List.mem_singleton.1 he; exact sep_new h10 (h3.resolve_left (by rintro ⟨h, _⟩; omega)) (Nat.le_refl _))))); simp only [Act.put, List.setIfInBounds_toArray, List.set_cons_zero, List.set_cons_succ, Nat.reduceAdd, List.cons_append, List.nil_append])
          (apply Se.pas_x (fun _ _ h => LowB.of_below h) rfl; (focus rfl); (focus (intro w6 hR hD hP K hK; replace hK := Lib.hid hK; skip; clear hR hD hP; go_simp; exact hK.out _ (Below.refl _ _))); simp only [Act.put, List.setIfInBounds_toArray, List.set_cons_zero, List.set_cons_succ, Nat.reduceAdd, List.cons_append, List.nil_append])
          (apply Se.pas_x (fun _ _ h => LowB.of_below h) rfl; (focus rfl); (focus (intro w6 hR hD hP K hK; replace hK := Lib.hid hK; skip; clear hR hD hP; go_simp; exact hK.out _ (Below.refl _ _))); simp only [Act.put, List.setIfInBounds_toArray, List.set_cons_zero, List.set_cons_succ, Nat.reduceAdd, List.cons_append, List.nil_append])
          (apply Se.pas_x (fun _ _ h => LowB.of_below h) rfl; (focus rfl); (focus (intro w6 hR hD hP K hK; replace hK := Lib.hid hK; skip; clear hR hD hP; go_simp; exact hK.out _ (Below.refl _ _))); simp only [Act.put, List.setIfInBounds_toArray, List.set_cons_zero, List.set_cons_succ, Nat.reduceAdd, List.cons_append, List.nil_append])
          (apply Se.pas_x (fun _ _ h => LowB.of_below h) rfl; (focus rfl); (focus (intro w6 hR hD hP K hK; replace hK := Lib.hid hK; have e := HCX.out w6 (hR (Nat.le_refl _)); clear hR hD hP; go_simp; exact hK.out _ (Below.refl _ _))); simp only [Act.put, List.setIfInBounds_toArray, List.set_cons_zero, List.set_cons_succ, Nat.reduceAdd, List.cons_append, List.nil_append])
          (apply Se.pas_x (fun _ _ h => LowB.of_below h) rfl; (focus rfl); (focus (intro w6 hR hD hP K hK; replace hK := Lib.hid hK; skip; clear hR hD hP; go_simp; exact hK.out _ (Below.refl _ _))); simp only [Act.put, List.setIfInBounds_toArray, List.set_cons_zero, List.set_cons_succ, Nat.reduceAdd, List.cons_append, List.nil_append])
          (apply Se.pas_x (fun _ _ h => LowB.of_below h) rfl; (focus rfl); (focus (intro w6 hR hD hP K hK; replace hK := Lib.hid hK; skip; clear hR hD hP; go_simp; exact hK.out _ (Below.refl _ _))); simp only [Act.put, List.setIfInBounds_toArray, List.set_cons_zero, List.set_cons_succ, Nat.reduceAdd, List.cons_append, List.nil_append])
          (apply Se.pas_r (fun v w' => ∃ g, v = .slice (some ⟨g, 0, none⟩) 1 1 ∧ wr.heap.size ≤ g ∧ w'.heap[g]? = some (.cells #[.int .i64 (x + d)] 3 (0, 0))) (fun _ _ h => LowB.of_below h) rfl (fun v w1 w2 h k => by obtain ⟨g, h1, h2, h3⟩ := h; exact ⟨g, h1, h2, block_below h3 k⟩); (focus rfl); (focus (intro w6 hR hD hP K hK; replace hK := Lib.hid hK; have hsz := Lib.hid ((hR (Nat.le_refl _)).size); clear hR hD hP; go_simp; exact hK.out _ _ (below_alloc' (Below.refl _ _) _) ⟨_, rfl, hsz.out, alloc_at _ _⟩)); simp only [Act.put, List.setIfInBounds_toArray, List.set_cons_zero, List.set_cons_succ, Nat.reduceAdd, List.cons_append, List.nil_append])
          refine Se.pas_ends ?_ ?_ fun w6 hR hp hsep => ?_
          · simp only [Se.AllK, true_and, and_true, true_or, or_true, Nat.reduceAdd]
            have hsm : ∀ (g : Nat) (cs : Array Value) (w1 w2 : World), cs.size ≤ k * 1 → w1.heap[g]? = some (.cells cs 3 (0, 0)) → Spill wr.heap.size (k * 1) 3 w1 w2 → w2.heap[g]? = some (.cells cs 3 (0, 0)) := fun g cs w1 w2 hc h1 h2 => h2.small h1 hc
            refine ⟨.inr (.inr ?_), .inr (.inr ?_), .inr (.inr ?_), .inr (.inr ?_), .inr (.inr ?_), .inr (.inr ?_)⟩
            · intro v w1 w2 _ hg h
              obtain ⟨g, h1, h2, h3⟩ := h
              exact ⟨g, h1, h2, hsm g _ _ _ (Nat.zero_le _) h3 hg⟩
            · intro v w1 w2 _ hg h
              exact hg.own h fun _ => Nat.le_refl _
            · intro v w1 w2 _ hg h
              obtain ⟨g, h1, h2, h3⟩ := h
              exact ⟨g, h1, h2, hsm g _ _ _ (by simp; omega) h3 hg⟩
            · intro v w1 w2 _ hg h
              obtain ⟨g, h1, h2, h3⟩ := h
              exact ⟨g, h1, h2, hsm g _ _ _ (Nat.zero_le _) h3 hg⟩
            · intro v w1 w2 _ hg h
              exact hg.own h fun _ => Nat.le_refl _
            · intro v w1 w2 _ hg h
              obtain ⟨g, h1, h2, h3⟩ := h
              exact ⟨g, h1, h2, hsm g _ _ _ (by simp; omega) h3 hg⟩
          · simp [Se.AllK]
          have h10 : w6.ownsRow wr.heap.size 3 1 (vals 10) (k + 1) ((scoresA ns k).map (Value.int .i64) ++ [Value.int .i64 (x - d)] : List Value) := hp 10 (by simp)
          have h13 : w6.ownsRow wr.heap.size 3 1 (vals 13) k ((scoresA ns k).map (Value.int .i64)) := hp 13 (by simp)
          obtain ⟨g20, e20, _, hg20⟩ : ∃ g, vals 20 = .slice (some ⟨g, 0, none⟩) 1 1 ∧ wr.heap.size ≤ g ∧ w6.heap[g]? = some (.cells #[.int .i64 (x + d)] 3 (0, 0)) := hp 20 (by simp)
          have hse : (vals 10).ownBlock = none ∨ (vals 10).ownBlock ≠ (vals 13).ownBlock := hsep _ (List.mem_cons_self ..)
          have H10 := Lib.hid h10
          have H13 := Lib.hid h13
          have HG20 := Lib.hid hg20
          have HSE := Lib.hid hse
          have HB6 := Lib.hid (hR (Nat.le_refl _) : Below wr.heap.size (wr.drewN q).drew w6)
          clear hp hsep h10 h13 hse hg20 hR
          simp only [e20]
          clear e20
          have hc7' : ∀ W, Below wr.heap.size (wr.drewN q).drew W → ∀ j u, ((namesA k).map Value.string)[j]? = some u → W.cell? ((⟨g7, 0, none⟩ : Addr).add j) = some u := fun W hW j u hu => cell_below (w := (wr.drewN q).drew) (own_cells HRN.out j u hu) hW
          have HC7' := Lib.hid hc7'
          clear hc7'
          go_wp2_with (first
            | (at_builtin; refine list_app_full elt_ints (.tmp 76) (.tmp 83) rfl rfl (v := vals 13) (n := k) (m := 1) (c := 1) (ad := ⟨g20, 0, none⟩) (news := [.int .i64 (x + d)]) rfl rfl H13.out rfl (news_row HG20.out) (by simp [Value.oneCell']) (by omega) HB6.out.size ?_; intro v13 w7 h13 hsp hgr _; have H13' := Lib.hid h13; have H10' := Lib.hid (World.ownsRow.kept H10.out hgr HSE.out); have HB7 := Lib.hid (HB6.out.trans (hsp.below HB6.out.size (Nat.le_refl _))); clear h13 hsp hgr)
            | (at_builtin; refine list_app_empty elt_strs (.tmp 85) (.tmp 86) rfl rfl (g := w7.heap.size) (m := k) (c := c7) (ax := some ⟨g7, 0, none⟩) (news := (namesA k).map Value.string) rfl rfl (.inr ⟨_, rfl, HC7'.out _ (HB7.out.alloc HB7.out.size _)⟩) (by simp [namesA]) (fun u hu => by obtain ⟨z, _, rfl⟩ := List.mem_map.1 hu; rfl) (by omega) ?_; intro v87 w8 h87 hb8; have H87 := Lib.hid (own_base (h87.resolve_left (by rintro ⟨h, _⟩; omega)) (Nat.le_trans HB7.out.size (by simp)) : w8.ownsRow wr.heap.size 9 1 v87 k _); have HB8 := Lib.hid ((below_alloc' (Below.refl _ _) _).trans (hb8.mono (by simp))); clear h87 hb8)
            | (at_builtin; refine list_app_spill elt_strs (.tmp 87) (.tmp 88) rfl rfl (v := v87) (n := k) (m := 1) (c := 1) (ad := ⟨w8.heap.size, 0, none⟩) (news := [.string ⟨#[97, 97]⟩]) rfl rfl (World.ownsRow.alloc H87.out _) rfl (news_row (alloc_at _ _)) (by simp [Value.oneCell']) (by omega) (Nat.le_trans (Nat.le_trans HB7.out.size HB8.out.size) (by simp)) ?_; intro v14 w9 h14 hsp; have H14 := Lib.hid h14; have HSP := Lib.hid hsp; clear h14 hsp))
          have HB8' := Lib.hid ((HB7.out.trans (HB8.out.mono HB7.out.size)).alloc (Nat.le_trans HB7.out.size HB8.out.size) (.cells #[.string ⟨#[97, 97]⟩] 9))
          have HB9 := Lib.hid (HB8'.out.trans (HSP.out.below HB8'.out.size (Nat.le_refl _)))
          have H10f := Lib.hid (HSP.out.own (World.ownsRow.alloc (own_below H10'.out HB8.out) _) (fun e => absurd e (by decide)))
          have H13f := Lib.hid (HSP.out.own (World.ownsRow.alloc (own_below H13'.out HB8.out) _) (fun e => absurd e (by decide)))
          clear HSP H10' H13' HB8' H87 HB8 HB7 H10 H13 HB6 HSE HG20
          refine (within_any _ _ (by omega) (by omega) _).mono ?_
          rintro e w10 ⟨rfl, rfl⟩
          obtain ⟨i, hi, hik⟩ : ∃ i : Nat, at' % (k : Int) = i ∧ i < k := by
            have t1 := Int.emod_nonneg at' hk0'
            have t2 := Int.emod_lt_of_pos at' (show (0 : Int) < k by omega)
            exact ⟨(at' % (k : Int)).toNat, by omega, by omega⟩
          rw [hi]
          have hrs9 := own_below (w := (wr.drewN q).drew) HRS.out HB9.out
          have hrn9 := own_below (w := (wr.drewN q).drew) HRN.out HB9.out
          obtain ⟨y, hy⟩ : ∃ y, (scoresA ns k).getD i 0 = y := ⟨_, rfl⟩
          have hyb : 0 ≤ y ∧ y < 100 := by rw [← hy]; simp only [scoresA, List.getD_eq_getElem?_getD, List.getElem?_map, List.getElem?_range hik, Option.map_some, Option.getD_some]; omega
          have ky1 : IntKind.i64.wrap (y - d) = y - d := kwid (by omega) (by omega)
          have hci : w9.cell? ⟨g8, i, none⟩ = some (.int .i64 y) := by
            rw [hrs9.cellAt i (by rw [Nat.mul_one]; exact hik)]
            rw [← hy]
            simp [List.getD_eq_getElem?_getD, HSL.out, hik]
          have hfi := hrs9.frozenAt i
          obtain ⟨hst, hgr⟩ := hrs9.stored i (.int .i64 (y - d))
          have hn8 := own_type_ne hrn9 hrs9 (by decide)
          have hRN := Lib.hid (hrn9.kept hgr hn8)
          have h14' := Lib.hid (World.ownsRow.kept H14.out hgr (own_type_ne H14.out hrs9 (by decide)))
          have hlt8 := (HRS.out.lt g8 rfl).2
          have h10' := Lib.hid (World.ownsRow.kept H10f.out hgr (sep_low H10f.out hlt8))
          have h13' := Lib.hid (World.ownsRow.kept H13f.out hgr (sep_low H13f.out hlt8))
          have HST := Lib.hid hst
          have HGR := Lib.hid hgr
          have HY := Lib.hid hy
          have HI := Lib.hid hi
          clear hst hgr hn8 H14 H10f H13f hy hi hrs9 hrn9
          have hkb2 : bestTo (namesA k) (scoresA ns k) k = kb := HKB.out
          have hxe : (scoresA ns k).getD (bestTo (namesA k) (scoresA ns k) k).toNat 0 = x := by rw [hkb2, Int.toNat_natCast]; exact hx
          have e1 := best_less (x := ⟨#[97, 97]⟩) HNL.out HSL.out (by omega) (y := x - d) (by rw [hxe]; omega)
          have e2 := best_more (x := ⟨#[97, 97]⟩) HNL.out HSL.out (by omega) (y := x + d) (by rw [hxe]; omega)
          rw [hkb2] at e1
          obtain ⟨j, hj⟩ : ∃ j, bestTo (namesA k) ((scoresA ns k).set i (y - d)) k = j := ⟨_, rfl⟩
          have hj0 : 0 ≤ j := by rw [← hj]; exact (bestTo_bd _ _ k).2.2 (by omega)
          have hjk : (i : Int) = kb ∨ j = kb := by
            by_cases hne : (i : Int) = kb
            · exact .inl hne
            · right
              rw [← hj, ← hkb2]
              exact best_low HSL.out (by omega) hik (by rw [hkb2]; exact hne) (by rw [HY.out]; omega)
          have E1 := Lib.hid e1
          have E2 := Lib.hid e2
          have HJ := Lib.hid hj
          have HJK := Lib.hid hjk
          have HX := Lib.hid hx
          clear hkb2 hxe e1 e2 hj hjk hx
          have hge8 : w.heap.size ≤ g8 := by have := (HRS.out.lt g8 rfl).1; exact this
          go_wp2_with fail
          refine (best_rows (xs := namesA k) (ss := (scoresA ns k).set i (y - d)) hRN.out (by rw [List.map_set]; exact HST.out) HNL.out (by rw [List.length_set]; exact HSL.out) (by omega) (by omega)).mono ?_
          rintro e w11 ⟨q1, rfl, rfl⟩
          rw [HJ.out]
          go_wp2_with fail
          refine (best_rows (xs := namesA k ++ [⟨#[97, 97]⟩]) (ss := scoresA ns k ++ [x - d]) (w := (w9.setCell ⟨g8, i, none⟩ (.int .i64 (y - d))).drewN q1) (by rw [List.map_append]; exact h14'.out) (by rw [List.map_append]; exact h10'.out) (by rw [List.length_append, HNL.out]; rfl) (by rw [List.length_append, HSL.out]; rfl) (by omega) (by omega)).mono ?_
          rintro e w12 ⟨q2, rfl, rfl⟩
          rw [E1.out]
          have kk : ((kb : Int) == kb) = true := beq_self_eq_true _
          go_wp2_with fail
          refine (best_rows (xs := namesA k ++ [⟨#[97, 97]⟩]) (ss := scoresA ns k ++ [x + d]) (w := (w9.setCell ⟨g8, i, none⟩ (.int .i64 (y - d))).drewN (q1 + q2)) (by rw [List.map_append]; exact h14'.out) (by rw [List.map_append]; exact h13'.out) (by rw [List.length_append, HNL.out]; rfl) (by rw [List.length_append, HSL.out]; rfl) (by omega) (by omega)).mono ?_
          rintro e w13 ⟨q3, rfl, rfl⟩
          rw [E2.out]
          have kk2 : ((k : Int) == k) = true := beq_self_eq_true _
          have hBW : Below w.heap.size w ((w9.setCell ⟨g8, i, none⟩ (.int .i64 (y - d))).drewN (q1 + q2 + q3)) := by
            have h1 : Below w.heap.size w (wr.drewN q).drew := ⟨HB.out.os, HB.out.tape, HB.out.output, HB.out.size, HB.out.block⟩
            have h2 : Below w.heap.size w w9 := h1.trans (HB9.out.mono HB.out.size)
            have h3 := h2.setCell (p := ⟨g8, i, none⟩) hge8 (.int .i64 (y - d))
            exact ⟨h3.os, h3.tape, h3.output, h3.size, h3.block⟩
          have HBW := Lib.hid hBW
          clear hBW
          rcases HJK.out with h5 | h5
          · have h6 : ((i : Int) == kb) = true := by rw [h5]; exact beq_self_eq_true _
            go_wp2
            go_ret
            exact ⟨rfl, HBW.out⟩
          · have h6 : (j == (kb : Int)) = true := by rw [h5]; exact beq_self_eq_true _
            cases h7 : ((i : Int) == (kb : Int)) <;> (go_wp2; go_ret; exact ⟨rfl, HBW.out⟩)
theorem add_row (a0 : Option Addr) (len0 cap0 : Nat) (z0 : List Int) (at' by' : Int) (w : World) (w0 : IsRow .i64 w a0 len0 cap0 z0) (y0 : len0 * 8 ≤ 140737488351232) :
    Calls Try.prog 7 #[.slice a0 len0 cap0, .int .i64 at', .int .i64 by'] w fun e w' => e = .returned (.bool true) ∧ Below w.heap.size w w' :=
  add_any _ (z0.take len0) at' by' w (nums_row w0 y0)
end Go.Proofs.Ytpndngcopfpdgaa
