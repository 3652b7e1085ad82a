/- The walk of the law ScoreEven, for every input, where the table score.tops lies as it was laid. -/
import Derived.Test.YtpndngcopfpdgaaDoorE
import Derived.Deep.AppendLies
import Derived.Laws.BytesArg
set_option linter.unusedVariables false
set_option linter.unusedSimpArgs false
namespace Go.Proofs.YtpndngcopfpdgaaDoor
open Go.RowKit

theorem Tryd.info9 : (Tryd.prog.info? 9).map (fun i => (i.zero, i.size, i.bytes)) = some (some (.string ByteArray.empty), 1, 16) := by kernel_rfl
theorem Tryd.info3 : (Tryd.prog.info? 3).map (fun i => (i.zero, i.size, i.bytes)) = some (some (.int .i64 0), 1, 8) := by kernel_rfl

/-- What a region of appends keeps: old cells, the table, the base. -/
def Sf (B cb : Nat) (x y : Value) (w : World) : Prop := w.cell? ⟨cb, 0, none⟩ = some x ∧ w.cell? ⟨cb, 1, none⟩ = some y ∧ Tops w ∧ B ≤ w.heap.size
theorem sf_below {B cb : Nat} {x y : Value} {w w' : World} (h : w.cell? ⟨cb, 0, none⟩ = some x ∧ w.cell? ⟨cb, 1, none⟩ = some y ∧ Tops w ∧ B ≤ w.heap.size) (hb : Below w.heap.size w w') :
    w'.cell? ⟨cb, 0, none⟩ = some x ∧ w'.cell? ⟨cb, 1, none⟩ = some y ∧ Tops w' ∧ B ≤ w'.heap.size := by
  have k : ∀ {p v}, w.cell? p = some v → w'.cell? p = some v := fun h => (hb.cell (World.block_lt_of_cell? w _ h)).trans h
  exact ⟨k h.1, k h.2.1, h.2.2.1.below hb, Nat.le_trans h.2.2.2 hb.size⟩
theorem sf_grown {B cb : Nat} {x y : Value} {w w' : World} {row : Option Nat} (hcb : cb < B) (h0 : 0 < B) (hr : ∀ k, row = some k → B ≤ k) (h : w.cell? ⟨cb, 0, none⟩ = some x ∧ w.cell? ⟨cb, 1, none⟩ = some y ∧ Tops w ∧ B ≤ w.heap.size) (hg : w.grownBy w' row) :
    w'.cell? ⟨cb, 0, none⟩ = some x ∧ w'.cell? ⟨cb, 1, none⟩ = some y ∧ Tops w' ∧ B ≤ w'.heap.size := by
  have k : ∀ {p v}, p.block < B → w.cell? p = some v → w'.cell? p = some v := fun hp h => (hg.cell_far _ (World.block_lt_of_cell? w _ h) (fun e => by have := hr _ e.symm; omega)).trans h
  exact ⟨k hcb h.1, k hcb h.2.1, ⟨k h0 h.2.2.1.1, k h0 h.2.2.1.2.1, k h0 h.2.2.1.2.2⟩, Nat.le_trans h.2.2.2 hg.size⟩

theorem own_below {w w1 : World} {base n : Nat} {e : TypeId} {size : Nat} {v : Value} {xs : List Value} (h : w.ownsRow base e size v n xs) (hb : Below w.heap.size w w1) : w1.ownsRow base e size v n xs :=
  h.kept (row := none) ⟨hb.os, hb.tape, hb.output, hb.size, fun i hi _ => hb.block i hi⟩ (by cases v.ownBlock <;> simp)
theorem own_drew {w : World} {base n : Nat} {e : TypeId} {size : Nat} {v : Value} {xs : List Value} (h : w.ownsRow base e size v n xs) : w.drew.ownsRow base e size v n xs := h
theorem own_type_ne {w : World} {b b' : Nat} {e e' : TypeId} {s s' n n' : Nat} {v v' : Value} {xs xs' : List Value} (h : w.ownsRow b e s v n xs) (h' : w.ownsRow b' e' s' v' n' xs') (hne : e ≠ e') : v.ownBlock = none ∨ v.ownBlock ≠ v'.ownBlock := by
  rcases h.2 with ⟨rfl, _⟩ | ⟨g, cap, cur, rfl, _, hh, _⟩
  · exact .inl rfl
  · refine .inr fun hk => ?_
    rcases h'.2 with ⟨rfl, _⟩ | ⟨g', cap', cur', rfl, _, hh', _⟩
    · simp [Value.ownBlock] at hk
    · have : g = g' := by simpa [Value.ownBlock] using hk
      subst this
      rw [hh] at hh'
      injection hh' with hh'
      injection hh' with _ ht
      exact hne ht
/-- An element type of one cell. -/
def El (P : Program) (t e : TypeId) (z : Value) (bytes : Nat) : Prop := P.underlying t = some (.slice e) ∧ z.cells.size = 1 ∧ bytes ≤ 64 ∧ ∃ i, P.info? e = some i ∧ i.zero = some z ∧ i.size = 1 ∧ i.bytes = bytes
theorem step_app {P : Program} {w : World} {ops : Array Oper} {o : Oper} {a : Act} {K : Act → World → Prop} {Q : Exit → Act → World → Prop} {E : Prop} {t e : TypeId} {z : Value} {bytes : Nat} (hE : El P t e z bytes) (s x : Operand)
    (hgd : o.guard = none) (ho : o.op = .call { callee := .builtin .append, args := #[s, x], argTypes := #[t, t] }) {v : Value} {n base bx : Nat} {xs : List Value} {u : Value} {T : TypeId} (hs : a.eval s = v) (hx : a.eval x = .slice (some ⟨bx, 0, none⟩) 1 1)
    (hown : w.ownsRow base e 1 v n xs) (hb : w.heap[bx]? = some (.cells #[u] T (0, 0))) (hu : u.oneCell' = true) (hn : n ≤ 1099511627776) (hbase : base ≤ w.heap.size)
    (h : ∀ g cap w', w'.ownsRow base e 1 (.slice (some ⟨g, 0, none⟩) (n + 1) cap) (n + 1) (xs ++ [u]) → w.grownBy w' v.ownBlock → (v.ownBlock = some g ∨ g = w.heap.size) → g < w'.heap.size → K (a.put o.dst (.slice (some ⟨g, 0, none⟩) (n + 1) cap)) w') :
    if Region.wanted o (yielded ops a.tmps) = true then Oper.wp P o a w K Q else E := by
  obtain ⟨h1, h2, h3, i, h4, h5, h6, h7⟩ := hE
  have hbb : (n + 1) * bytes ≤ 1099511627777 * 64 := Nat.mul_le_mul (by omega) h3
  exact step_append_lies w hgd s x t ho base e i z 1 bytes h1 h4 h5 h6 h7 h2 (by decide) v n xs hs hown ⟨bx, 0, none⟩ 1 1 [u] hx rfl (World.news_of_block hb) (by simp [hu]) (by decide) (by unfold maxLen; omega) (by omega) hbase _ rfl h
theorem el9 : El Tryd.prog 33 9 (.string ByteArray.empty) 16 := ⟨Tryd.underlying33, rfl, by decide, info_parts Tryd.info9⟩
theorem el3 : El Tryd.prog 23 3 (.int .i64 0) 8 := ⟨Tryd.underlying23, rfl, by decide, info_parts Tryd.info3⟩

theorem score_sf {mode a b c d e f pods : Int} {w : World} {c0 c1 c2 : Prop} (h : c0 ∧ c1 ∧ Tops w ∧ c2) : Calls Tryd.prog 12 #[.int .i64 mode, .agg #[.int .i64 a, .int .i64 b], .agg #[.int .i64 c, .int .i64 d], .agg #[.int .i64 e, .int .i64 f], .int .i64 pods] w
    fun r' w' => r' = .returned (.int .i64 (scoreF mode (leftF a b c d e f) pods)) ∧ Below w.heap.size w w' := score_any mode a b c d e f pods w h.2.2.1

theorem base_of {B : Nat} {w w' : World} {c0 c1 c2 : Prop} (h : c0 ∧ c1 ∧ c2 ∧ B ≤ w.heap.size) (hb : Below w.heap.size w w') : B ≤ w'.heap.size := Nat.le_trans h.2.2.2 hb.size
theorem alloc_second (w : World) (o o' : Obj) : ((w.alloc o).alloc o').heap[w.heap.size + 1]? = some o' := by
  have := alloc_at (w.alloc o) o'
  rwa [World.size_alloc] at this
theorem size_alloc_le (w : World) (o : Obj) : w.heap.size ≤ (w.alloc o).heap.size := by simp
def nameAt (K j : Nat) : ByteArray := ⟨#[110]⟩ ++ strOfNums [48 + ((K : Int) - j)]
def namesTo (K : Nat) : Nat → List Value
  | 0 => []
  | m + 1 => namesTo K m ++ [.string (nameAt K m)]

theorem namesTo_get (K : Nat) : ∀ m j, j < m → (namesTo K m)[j]? = some (.string (nameAt K j))
  | 0, _, h => absurd h (by omega)
  | m + 1, j, h => by
    have hl : ∀ m, (namesTo K m).length = m := by
      intro m
      induction m with
      | zero => rfl
      | succ m ih => simp [namesTo, ih]
    rw [namesTo]
    by_cases hj : j < m
    · rw [List.getElem?_append_left (by rw [hl]; exact hj)]; exact namesTo_get K m j hj
    · obtain rfl : j = m := by omega
      rw [List.getElem?_append_right (by rw [hl]; exact Nat.le_refl _), hl]
      simp
theorem less_names : ∀ K : Fin 10, ∀ k : Fin 10, 0 < k.val → k.val < K.val → Op.bytesLess (nameAt K.val k.val).toList (nameAt K.val (k.val - 1)).toList = true := by decide +kernel
theorem best_names (K : Nat) (c : Int) (hK : K ≤ 9) : ∀ k, k ≤ K → bestTo ((List.range K).map (nameAt K)) (List.replicate K c) k = (k : Int) - 1
  | 0, _ => rfl
  | k + 1, h => by
    have ih := best_names K c hK k (by omega)
    unfold bestTo
    rw [ih]
    have hb : better ((List.range K).map (nameAt K)) (List.replicate K c) ((k : Int) - 1) k = true := by
      by_cases h0 : k = 0
      · subst h0; rfl
      · have e : ((k : Int) - 1).toNat = k - 1 := by omega
        have g : ∀ j, j < K → (List.replicate K c).getD j 0 = c := fun j hj => by simp [List.getD_eq_getElem?_getD, List.getElem?_replicate, hj]
        have g' : ∀ j, j < K → ((List.range K).map (nameAt K)).getD j ByteArray.empty = nameAt K j := fun j hj => by simp [List.getD_eq_getElem?_getD, List.getElem?_range hj]
        unfold better
        rw [e, g k (by omega), g (k - 1) (by omega), g' k (by omega), g' (k - 1) (by omega), less_names ⟨K, by omega⟩ ⟨k, by omega⟩ (by show 0 < k; omega) (by show k < K; omega)]
        simp
    rw [if_pos hb]
    omega

set_option maxHeartbeats 2000000 in
theorem even_any (a b mode count : Int) (w : World) (ht : Tops w) : Calls Tryd.prog 6 #[.int .i64 a, .int .i64 b, .int .i64 mode, .int .i64 count] w fun r w' => r = .returned (.bool true) ∧ Below w.heap.size w w' := by
  have HT := Lib.hid ht
  clear ht
  have p1 := Int.emod_nonneg a (show (100 : Int) ≠ 0 by omega)
  have p2 := Int.emod_lt_of_pos a (show (0 : Int) < 100 by omega)
  have q1 := Int.emod_nonneg b (show (100 : Int) ≠ 0 by omega)
  have q2 := Int.emod_lt_of_pos b (show (0 : Int) < 100 by omega)
  have r1 := Int.emod_nonneg count (show (9 : Int) ≠ 0 by omega)
  have r2 := Int.emod_lt_of_pos count (show (0 : Int) < 9 by omega)
  go_enter Tryd.func6, Tryd.ntmps6
  go_wp2_with (first | (go_at_call 7; refine (known_any _).mono ?_; rintro r w1 ⟨rfl, hb⟩; have HB1 := Lib.hid hb; clear hb) | (go_at_call 9; refine (within_any _ _ (by omega) (by omega) _).mono ?_; rintro e w' ⟨rfl, rfl⟩))
  obtain ⟨K, hK⟩ : ∃ K : Nat, 1 + count % 9 = K := ⟨(1 + count % 9).toNat, by omega⟩
  have K1 : 1 ≤ K := by omega
  have K9 : K ≤ 9 := by omega
  rw [hK]
  clear hK r1 r2
  go_loopw [10, 11, 13] (fun vn vs i wr => ∃ m : Nat, m ≤ K ∧ i = .int .i64 ((K : Int) - m) ∧ wr.ownsRow (w1.heap.size + 1) 9 1 vn m (namesTo K m) ∧ wr.ownsRow (w1.heap.size + 1) 3 1 vs m (List.replicate m (.int .i64 (scoreF (mode % 4) (leftF (1 + a % 100) (1 + b % 100) 0 0 1 0) 3))) ∧ Below (w1.heap.size + 1) (w1.alloc (.cells #[.int .i64 (1 + a % 100), .int .i64 (1 + b % 100)] 25)) wr) (fun _ _ i _ => (intOf i).toNat)
  case atStart => exact ⟨0, by omega, by simp, World.ownsRow_nil .., World.ownsRow_nil .., Below.refl _ _⟩
  case round =>
    obtain ⟨m, hm, rfl, hn, hs, hbr⟩ := hrel
    have HN := Lib.hid hn
    have HS := Lib.hid hs
    have HBR := Lib.hid hbr
    have hS0 : (wr.drew.cell? ⟨w1.heap.size, 0, none⟩ = some (.int .i64 (1 + a % 100)) ∧ wr.drew.cell? ⟨w1.heap.size, 1, none⟩ = some (.int .i64 (1 + b % 100)) ∧ Tops wr.drew ∧ w1.heap.size + 1 ≤ wr.drew.heap.size) :=
      sf_below ⟨(hbr.cell (p := ⟨_, 0, none⟩) (by simp)).trans (cell_of_block (alloc_at _ _) 0 _ rfl), (hbr.cell (p := ⟨_, 1, none⟩) (by simp)).trans (cell_of_block (alloc_at _ _) 1 _ rfl), HT.out.below (below_call (below_alloc' HB1.out _) (hbr.mono (by simp))), Nat.le_trans (by simp) hbr.size⟩ (Below.refl _ _).drew
    have HS0 := Lib.hid hS0
    clear hn hs hbr hS0
    by_cases hlt : m < K
    · have i1 : (0 : Int) < (K : Int) - m := by omega
      obtain ⟨d, hd⟩ : ∃ d : Nat, (K : Int) - m = d := ⟨K - m, by omega⟩
      rw [hd] at i1 ⊢
      have d9 : d ≤ 9 := by omega
      have HD := Lib.hid hd
      clear hd
      obtain ⟨i9, hi9, hz90, hz91, hz92⟩ := info_parts Tryd.info9
      obtain ⟨i3, hi3, hz30, hz31, hz32⟩ := info_parts Tryd.info3
      have k48 : IntKind.i64.wrap (48 + (d : Int)) = 48 + d := kwid (by omega) (by omega)
      have k8 : IntKind.u8.wrap (48 + (d : Int)) = 48 + d := IntWalk.u8_in _ (by omega)
      have kc : (convert 35 9 (.slice (some ⟨wr.heap.size, 0, none⟩) 1 1)).run Tryd.prog (wr.alloc (.cells #[.int .u8 (48 + (d : Int))] 5)).drew = .ok (.string (strOfNums [48 + (d : Int)])) (wr.alloc (.cells #[.int .u8 (48 + (d : Int))] 5)).drew :=
        run_convert_bytes_arg _ 35 5 Tryd.underlying35 Tryd.underlying5 _ 0 1 1 [48 + (d : Int)] rfl (fun i hi => by
          obtain rfl : i = 0 := by omega
          exact (World.cell?_of_block (w := wr.alloc _) rfl).trans (cell_of_block (alloc_at _ _) 0 _ rfl)) 9 Tryd.underlying9
      go_wp2
      have HM : Hid (m ≤ 1099511627776) := (by omega : m ≤ 1099511627776)
      have HZ1 : Hid (w1.heap.size + 1 ≤ ((wr.alloc (.cells #[.int .u8 (48 + (d : Int))] 5)).alloc (.cells #[.string (⟨#[110]⟩ ++ strOfNums [48 + (d : Int)])] 9)).drew.heap.size) := Nat.le_trans HS0.out.2.2.2 (Nat.le_trans (size_alloc_le _ _) (size_alloc_le _ _))
      have hne93 : (3 : Nat) ≠ 9 := by decide
      have hne39 : (9 : Nat) ≠ 3 := by decide
      have ksz : (strOfNums [48 + (d : Int)]).size = 1 := strOfNums_size _
      refine wp_region_noPanic ?_
      refine wp_region_held_drew (S := (fun w' => w'.cell? ⟨w1.heap.size, 0, none⟩ = some (.int .i64 (1 + a % 100)) ∧ w'.cell? ⟨w1.heap.size, 1, none⟩ = some (.int .i64 (1 + b % 100)) ∧ Tops w' ∧ w1.heap.size + 1 ≤ w'.heap.size)) (by kernel_rfl) HS0.out (fun hHeld => ?_)
      refine wpAnyH_take (i := 0) (v := ?_) rfl (by kernel_rfl) (by kernel_rfl) (by kernel_rfl) (fun _ _ _ h => h) (Or.inl ⟨by rfl, ?_⟩) (by assumption) ?_
      rotate_left; (focus (intro w hSw; (try dsimp only at hSw); go_simp; try with_reducible rfl)); try simp only [Act.put, List.setIfInBounds_toArray, List.set_cons_zero, List.set_cons_succ]
      refine wpAnyH_take (i := 1) (v := ?_) rfl (by kernel_rfl) (by kernel_rfl) (by kernel_rfl) (fun _ _ _ h => h) (Or.inl ⟨by rfl, ?_⟩) (by assumption) ?_
      rotate_left; (focus (intro w hSw; (try dsimp only at hSw); go_simp; try with_reducible rfl)); try simp only [Act.put, List.setIfInBounds_toArray, List.set_cons_zero, List.set_cons_succ]
      refine wpAnyH_take (i := 2) (v := ?_) rfl (by kernel_rfl) (by kernel_rfl) (by kernel_rfl) (fun _ _ _ h => h) (Or.inl ⟨by rfl, ?_⟩) (by assumption) ?_
      rotate_left; (focus (intro w hSw; (try dsimp only at hSw); go_simp; try with_reducible rfl)); try simp only [Act.put, List.setIfInBounds_toArray, List.set_cons_zero, List.set_cons_succ]
      refine wpAnyH_take (i := 3) (v := ?_) rfl (by kernel_rfl) (by kernel_rfl) (by kernel_rfl) (fun _ _ _ h => h) (Or.inl ⟨by rfl, ?_⟩) (by assumption) ?_
      rotate_left; (focus (intro w hSw; (try dsimp only at hSw); go_simp; try with_reducible rfl)); try simp only [Act.put, List.setIfInBounds_toArray, List.set_cons_zero, List.set_cons_succ]
      refine wpAnyH_take (i := 9) (v := ?_) rfl (by kernel_rfl) (by kernel_rfl) (by kernel_rfl) (fun _ _ _ h => h) (Or.inl ⟨by rfl, ?_⟩) (by assumption) ?_
      rotate_left; (focus (intro w hSw; (try dsimp only at hSw); go_simp; try with_reducible rfl)); try simp only [Act.put, List.setIfInBounds_toArray, List.set_cons_zero, List.set_cons_succ]
      refine wpAnyH_take (i := 10) (v := ?_) rfl (by kernel_rfl) (by kernel_rfl) (by kernel_rfl) (fun _ _ _ h => h) (Or.inl ⟨by rfl, ?_⟩) (by assumption) ?_
      rotate_left; (focus (intro w hSw; (try dsimp only at hSw); go_simp; try with_reducible rfl)); try simp only [Act.put, List.setIfInBounds_toArray, List.set_cons_zero, List.set_cons_succ]
      refine wpAnyH_take (i := 12) (v := ?_) rfl (by kernel_rfl) (by kernel_rfl) (by kernel_rfl) (fun _ _ _ h => h) (Or.inl ⟨by rfl, ?_⟩) (by assumption) ?_
      rotate_left; (focus (intro w hSw; (try dsimp only at hSw); go_simp; try with_reducible rfl)); try simp only [Act.put, List.setIfInBounds_toArray, List.set_cons_zero, List.set_cons_succ]
      refine wpAnyH_take (i := 13) (v := ?_) rfl (by kernel_rfl) (by kernel_rfl) (by kernel_rfl) (fun _ _ _ h => h) (Or.inl ⟨by rfl, ?_⟩) (by assumption) ?_
      rotate_left; (focus (intro w hSw; (try dsimp only at hSw); go_simp; try with_reducible rfl)); try simp only [Act.put, List.setIfInBounds_toArray, List.set_cons_zero, List.set_cons_succ]
      refine wpAnyH_take (i := 14) (v := ?_) rfl (by kernel_rfl) (by kernel_rfl) (by kernel_rfl) (fun _ _ _ h => h) (Or.inl ⟨by rfl, ?_⟩) (by assumption) ?_
      rotate_left; (focus (intro w hSw; (try dsimp only at hSw); go_simp; try with_reducible rfl)); try simp only [Act.put, List.setIfInBounds_toArray, List.set_cons_zero, List.set_cons_succ]
      refine wpAnyH_ready (rs := [4]) (by kernel_rfl) (by simp) ?_
      refine AllReadyH.cons rfl (fun K hK => ?_) AllReadyH.nil
      go_simp
      refine hK.out _ _ ?_ (fun hHeld => ?_)
      · exact sf_below (by assumption) (below_alloc' (Below.refl _ _) _)
      clear hK K; try simp only [Act.put, List.setIfInBounds_toArray, List.set_cons_zero, List.set_cons_succ]
      refine wpAnyH_ready (rs := [5]) (by kernel_rfl) (by simp) ?_
      refine AllReadyH.cons rfl (fun K hK => ?_) AllReadyH.nil
      go_simp
      refine hK.out _ _ ?_ (fun hHeld => ?_)
      · assumption
      clear hK K; try simp only [Act.put, List.setIfInBounds_toArray, List.set_cons_zero, List.set_cons_succ]
      refine wpAnyH_take (i := 6) (v := ?_) rfl (by kernel_rfl) (by kernel_rfl) (by kernel_rfl) (fun _ _ _ h => h) (Or.inl ⟨by rfl, ?_⟩) (by assumption) ?_
      rotate_left; (focus (intro w hSw; (try dsimp only at hSw); go_simp; try with_reducible rfl)); try simp only [Act.put, List.setIfInBounds_toArray, List.set_cons_zero, List.set_cons_succ]
      refine wpAnyH_ready (rs := [7]) (by kernel_rfl) (by simp) ?_
      refine AllReadyH.cons rfl (fun K hK => ?_) AllReadyH.nil
      go_simp
      refine hK.out _ _ ?_ (fun hHeld => ?_)
      · exact sf_below (by assumption) (below_alloc' (Below.refl _ _) _)
      clear hK K; try simp only [Act.put, List.setIfInBounds_toArray, List.set_cons_zero, List.set_cons_succ]
      refine wpAnyH_ready (rs := [8]) (by kernel_rfl) (by simp) ?_
      refine AllReadyH.cons rfl (fun K hK => ?_) AllReadyH.nil
      refine step_app el9 (.tmp 31) (.tmp 38) rfl rfl rfl rfl (own_drew ((HN.out.alloc _).alloc _)) (alloc_second _ _ _) rfl HM.out HZ1.out ?_
      intro g cap w2 hown2 hg2 hgor hglt
      have ON2 := Lib.hid hown2
      have OG2 := Lib.hid hg2
      have OS2 := Lib.hid ((own_drew ((HS.out.alloc _).alloc _)).kept hg2 (own_type_ne HS.out HN.out hne93))
      clear hown2 hg2 hgor hglt
      refine hK.out _ _ ?_ (fun hHeld => ?_)
      · exact sf_grown (by omega) (by omega) (fun k hk => (HN.out.lt k hk).1) (by assumption) OG2.out
      clear hK K; try simp only [Act.put, List.setIfInBounds_toArray, List.set_cons_zero, List.set_cons_succ]
      refine wpAnyH_ready (rs := [11]) (by kernel_rfl) (by simp) ?_
      refine AllReadyH.cons rfl (fun K hK => ?_) AllReadyH.nil
      go_simp
      refine (within_any _ _ (by omega) (by omega) _).mono ?_
      rintro e w' ⟨rfl, rfl⟩
      refine hK.out _ _ ?_ (fun hHeld => ?_)
      · assumption
      clear hK K; try simp only [Act.put, List.setIfInBounds_toArray, List.set_cons_zero, List.set_cons_succ]
      refine wpAnyH_ready (rs := [15]) (by kernel_rfl) (by simp) ?_
      refine AllReadyH.cons rfl (fun K hK => ?_) AllReadyH.nil
      go_simp
      refine (score_sf (by assumption)).mono ?_
      rintro r w3 ⟨rfl, hb⟩
      have OB3 := Lib.hid hb
      have OZ3 := Lib.hid (base_of (by assumption) hb)
      clear hb
      refine hK.out _ _ ?_ (fun hHeld => ?_)
      · exact sf_below (by assumption) OB3.out
      clear hK K; try simp only [Act.put, List.setIfInBounds_toArray, List.set_cons_zero, List.set_cons_succ]
      refine wpAnyH_ready (rs := [16]) (by kernel_rfl) (by simp) ?_
      refine AllReadyH.cons rfl (fun K hK => ?_) AllReadyH.nil
      go_simp
      refine hK.out _ _ ?_ (fun hHeld => ?_)
      · exact sf_below (by assumption) (below_alloc' (Below.refl _ _) _)
      clear hK K; try simp only [Act.put, List.setIfInBounds_toArray, List.set_cons_zero, List.set_cons_succ]
      refine wpAnyH_ready (rs := [17]) (by kernel_rfl) (by simp) ?_
      refine AllReadyH.cons rfl (fun K hK => ?_) AllReadyH.nil
      refine step_app el3 (.tmp 40) (.tmp 47) rfl rfl rfl rfl ((own_below OS2.out OB3.out).alloc _) (alloc_at _ _) rfl HM.out (Nat.le_trans OZ3.out (size_alloc_le _ _)) ?_
      intro g' cap' w4 hown4 hg4 hgor4 hglt4
      have OS4 := Lib.hid hown4
      have OG4 := Lib.hid hg4
      have ON4 := Lib.hid (((own_below ON2.out OB3.out).alloc _).kept hg4 (own_type_ne ON2.out OS2.out hne39))
      clear hown4 hg4 hgor4 hglt4
      refine hK.out _ _ ?_ (fun hHeld => ?_)
      · exact sf_grown (by omega) (by omega) (fun k hk => (HS.out.lt k hk).1) (by assumption) OG4.out
      clear hK K; try simp only [Act.put, List.setIfInBounds_toArray, List.set_cons_zero, List.set_cons_succ]
      refine wpAnyH_take (i := 18) (v := ?_) rfl (by kernel_rfl) (by kernel_rfl) (by kernel_rfl) (fun _ _ _ h => h) (Or.inl ⟨by rfl, ?_⟩) (by assumption) ?_
      rotate_left; (focus (intro w hSw; (try dsimp only at hSw); go_simp; try with_reducible rfl)); try simp only [Act.put, List.setIfInBounds_toArray, List.set_cons_zero, List.set_cons_succ]
      refine wpAnyH_take (i := 19) (v := ?_) rfl (by kernel_rfl) (by kernel_rfl) (by kernel_rfl) (fun _ _ _ h => h) (Or.inl ⟨by rfl, ?_⟩) (by assumption) ?_
      rotate_left; (focus (intro w hSw; (try dsimp only at hSw); go_simp; try with_reducible rfl)); try simp only [Act.put, List.setIfInBounds_toArray, List.set_cons_zero, List.set_cons_succ]
      refine wpAnyH_done (by kernel_rfl) ?_ _
      refine NoPanic.normal ?_
      have b0 : Below (w1.heap.size + 1) (w1.alloc (.cells #[.int .i64 (1 + a % 100), .int .i64 (1 + b % 100)] 25)) w2 := ((((HBR.out.alloc (HS0.out.2.2.2) _).alloc (Nat.le_trans HS0.out.2.2.2 (size_alloc_le _ _)) _).drew).grown OG2.out HZ1.out (fun k hk => (HN.out.lt k hk).1))
      have b1 := b0.trans (OB3.out.mono (Nat.le_trans HZ1.out OG2.out.size))
      have b2 := (b1.alloc OZ3.out _).grown OG4.out (Nat.le_trans OZ3.out (size_alloc_le _ _)) (fun k hk => (HS.out.lt k hk).1)
      have HB5 := Lib.hid b2
      clear b0 b1 b2
      go_wp2
      go_roundw
      case rel =>
        have hd := HD.out
        refine ⟨m + 1, by omega, ?_, ?_, ?_, HB5.out⟩
        · rw [← hd]; go_num
        · have := ON4.out
          rw [← hd] at this
          exact this
        · have := OS4.out
          rw [← List.replicate_succ'] at this
          exact this
      case measure => have hd := HD.out; simp [intOf]; omega
    · obtain rfl : m = K := by omega
      have hz : (m : Int) - m = 0 := by omega
      rw [hz]
      clear hz
      obtain ⟨g, cap, hv, _, _⟩ := HN.out.form (by omega)
      obtain ⟨g', cap', hv', _, _⟩ := HS.out.form (by omega)
      have C0 : Hid (∀ j, j < m → wr.cell? ⟨g, 0 + j, none⟩ = some (.string (((List.range m).map (nameAt m)).getD j ByteArray.empty))) := fun j hj => by
        have h := HN.out
        rw [hv] at h
        rw [Nat.zero_add, h.cellAt j (by omega), namesTo_get m m j hj]
        simp [List.getD_eq_getElem?_getD, List.getElem?_range hj]
      have C1 : Hid (∀ j, j < m → wr.cell? ⟨g', 0 + j, none⟩ = some (.int .i64 ((List.replicate m (scoreF (mode % 4) (leftF (1 + a % 100) (1 + b % 100) 0 0 1 0) 3)).getD j 0))) := fun j hj => by
        have h := HS.out
        rw [hv'] at h
        rw [Nat.zero_add, h.cellAt j (by omega)]
        simp [List.getD_eq_getElem?_getD, List.getElem?_replicate, hj]
      have HBN := Lib.hid (best_names m (scoreF (mode % 4) (leftF (1 + a % 100) (1 + b % 100) 0 0 1 0) 3) K9 m (Nat.le_refl _))
      rw [hv, hv']
      clear hv hv'
      go_wp2_with ((go_at_call 14; refine (best_pos _ _ _ _ _ _ _ _ _ (by omega) _ C0.out C1.out).mono ?_; rw [HBN.out]; rintro e w5 ⟨q, rfl, rfl⟩))
      go_ret
      exact ⟨rfl, below_drewN' (below_call (below_alloc' HB1.out _) (HBR.out.mono (by simp))) _⟩
end Go.Proofs.YtpndngcopfpdgaaDoor
