/- Scores, by the program. -/
import Derived.Test.YtofofjfmhaggmaaGreatDoorVs
import Derived.Test.YtofofjfmhaggmaaGreatDoorProg
import Derived.WalkKit
import Derived.KernelRfl
import Derived.Below
import Derived.Deep.QuietTactic
import Derived.BigQuiet
import Derived.WalkLawsBesides
import Derived.Deep.LoopGhost
import Derived.Lib.Hide
import Derived.WalkSmall
import Derived.Test.YtofofjfmhaggmaaGreatDoorVi
import Derived.Test.YtofofjfmhaggmaaGreatDoorVr
import Derived.Test.YtofofjfmhaggmaaGreatDoorVb
set_option linter.unusedVariables false
set_option linter.unusedSimpArgs false
namespace Go.Proofs.YtofofjfmhaggmaaGreatDoor
open Go.RowKit

set_option maxHeartbeats 1000000 in
theorem best_pos (n g0 o0 c0 g1 o1 c1 : Nat) (xs : List ByteArray) (ss : List Int) (hm : n ≤ 4611686018427387904) (w : World)
    (h0 : ∀ j, j < n → w.cell? ⟨g0, o0 + j, none⟩ = some (.string (xs.getD j ByteArray.empty))) (h1 : ∀ j, j < n → w.cell? ⟨g1, o1 + j, none⟩ = some (.int .i64 (ss.getD j 0))) :
    Calls Tryz.prog 182 #[.slice (some ⟨g0, o0, none⟩) n c0, .slice (some ⟨g1, o1, none⟩) n c1] w fun e w' => ∃ q, e = .returned (.int .i64 (bestTo xs ss n)) ∧ w' = w.drewN q := by
  have H0 := Lib.hid h0
  have H1 := Lib.hid h1
  clear h0 h1
  go_enter Tryz.func182, Tryz.ntmps182
  go_wp2
  go_loopw [5, 10] (fun b i wr => ∃ k q : Nat, k ≤ n ∧ i = .int .i64 k ∧ b = .int .i64 (bestTo xs ss k) ∧ wr = w.drewN q) (fun _ i _ => n - (intOf i).toNat)
  case atStart => exact ⟨0, 0, Nat.zero_le _, rfl, rfl, rfl⟩
  case round =>
    obtain ⟨k, q, hk, rfl, hb, rfl⟩ := hrel
    have hbd := bestTo_bd xs ss k
    obtain ⟨b, hbe⟩ : ∃ b, b = bestTo xs ss k := ⟨_, rfl⟩
    have HS : bestTo xs ss (k + 1) = if better xs ss (bestTo xs ss k) k = true then (k : Int) else bestTo xs ss k := rfl
    rw [← hbe] at hb hbd HS
    have HB := Lib.hid hbe
    have HS' := Lib.hid HS
    clear HS hbe
    subst hb
    by_cases hlt : k < n
    · have a1 := H1.out k hlt
      have a0 := H0.out k hlt
      by_cases hb0 : b < 0
      · have d0 : decide (b < 0) = true := decide_eq_true hb0
        go_wp2
        go_quiet (fail)
        go_wp2
        go_roundw
        case rel => exact ⟨k + 1, _, by omega, by go_num, by rw [HS'.out, if_pos (by simp [better, d0])], rfl⟩
        case measure => simp [intOf]; omega
      · obtain ⟨m, rfl⟩ : ∃ m : Nat, b = (m : Int) := ⟨b.toNat, by omega⟩
        have hmk : m < k := by omega
        have b1 := H1.out m (by omega)
        have b0 := H0.out m (by omega)
        have im : (m : Int) < (n : Int) := by omega
        have ik : (k : Int) < (n : Int) := by omega
        have d0 : decide ((m : Int) < 0) = false := decide_eq_false hb0
        have HS2 : Hid (bestTo xs ss (k + 1) = if (decide (ss.getD m 0 < ss.getD k 0) || (ss.getD k 0 == ss.getD m 0 && Op.bytesLess (xs.getD k ByteArray.empty).toList (xs.getD m ByteArray.empty).toList)) = true then (k : Int) else m) := by
          rw [Hid, HS'.out, better, Int.toNat_natCast, d0, Bool.false_or]
        clear HS'
        generalize ss.getD m 0 = sm at *
        generalize ss.getD k 0 = sk at *
        generalize xs.getD m ByteArray.empty = xm at *
        generalize xs.getD k ByteArray.empty = xk at *
        by_cases h2 : sm < sk
        · have d2 : decide (sm < sk) = true := decide_eq_true h2
          go_wp2
          go_quiet (fail)
          go_wp2
          go_roundw
          case rel => exact ⟨k + 1, _, by omega, by go_num, by rw [HS2.out, d2]; rfl, rfl⟩
          case measure => simp [intOf]; omega
        · have d2 : decide (sm < sk) = false := decide_eq_false h2
          by_cases h3 : sk = sm
          · have d3 : (sk == sm) = true := beq_iff_eq.mpr h3
            clear h2 h3
            cases h4 : Op.bytesLess xk.toList xm.toList
            · go_wp2
              go_quiet (fail)
              go_wp2
              go_roundw
              case rel => exact ⟨k + 1, _, by omega, by go_num, by rw [HS2.out, d2, d3, h4]; rfl, rfl⟩
              case measure => simp [intOf]; omega
            · go_wp2
              go_quiet (fail)
              go_wp2
              go_roundw
              case rel => exact ⟨k + 1, _, by omega, by go_num, by rw [HS2.out, d2, d3, h4]; rfl, rfl⟩
              case measure => simp [intOf]; omega
          · have d3 : (sk == sm) = false := beq_eq_false_iff_ne.mpr h3
            go_wp2
            go_quiet (fail)
            go_wp2
            go_roundw
            case rel => exact ⟨k + 1, _, by omega, by go_num, by rw [HS2.out, d2, d3]; rfl, rfl⟩
            case measure => simp [intOf]; omega
    · obtain rfl : n = k := by omega
      go_wp2
      go_ret
      exact ⟨q, ret_int HB.out, rfl⟩

def Tops (w : World) : Prop := w.cell? ⟨1, 0, none⟩ = some (.int .i64 0) ∧ w.cell? ⟨1, 1, none⟩ = some (.int .i64 200) ∧ w.cell? ⟨1, 2, none⟩ = some (.int .i64 1000)
theorem Tops.below {w w' : World} (h : Tops w) (hb : Below w.heap.size w w') : Tops w' := by
  obtain ⟨h0, h1, h2⟩ := h
  exact ⟨(hb.cell (World.block_lt_of_cell? w _ h0)).trans h0, (hb.cell (World.block_lt_of_cell? w _ h1)).trans h1, (hb.cell (World.block_lt_of_cell? w _ h2)).trans h2⟩


theorem part_any (a b c : Int) (w : World) : Calls Tryz.prog 238 #[.int .i64 a, .int .i64 b, .int .i64 c] w fun e w' => e = .returned (.int .i64 (partF a b c)) ∧ w = w' := by
  by_cases h : a = 0
  · have h0 : (a == 0) = true := beq_iff_eq.mpr h
    go_enter Tryz.func238, Tryz.ntmps238
    go_wp2
    go_ret
    exact ⟨by simp [partF, h], rfl⟩
  · have h0 : (a == 0) = false := beq_eq_false_iff_ne.mpr h
    go_enter Tryz.func238, Tryz.ntmps238
    go_wp2
    go_ret
    exact ⟨by simp [partF, h], rfl⟩

theorem left_any (a b c d e f : Int) (w : World) : Calls Tryz.prog 222 #[.agg #[.int .i64 a, .int .i64 b], .agg #[.int .i64 c, .int .i64 d], .agg #[.int .i64 e, .int .i64 f]] w fun r w' => r = .returned (.int .i64 (leftF a b c d e f)) ∧ Below w.heap.size w w' := by
  go_enter Tryz.func222, Tryz.ntmps222
  go_wp2
  go_quiet ((go_at_call 238; exact Calls.quiet_of_same ((part_any _ _ _ _).mono fun _ _ ⟨h, h'⟩ => ⟨h, h'.symm⟩)))
  go_wp2
  go_ret
  exact ⟨rfl, below_drewN' (below_alloc' (below_alloc' (below_alloc' (Below.refl _ _) _) _) _) _⟩


set_option maxHeartbeats 1000000 in
theorem score_any (mode a b c d e f pods : Int) (w : World) (ht : Tops w) : Calls Tryz.prog 181 #[.int .i64 mode, .agg #[.int .i64 a, .int .i64 b], .agg #[.int .i64 c, .int .i64 d], .agg #[.int .i64 e, .int .i64 f], .int .i64 pods] w
    fun r w' => r = .returned (.int .i64 (scoreF mode (leftF a b c d e f) pods)) ∧ Below w.heap.size w w' := by
  have HT := Lib.hid ht
  clear ht
  have HB0 : Hid (Below w.heap.size w (((w.alloc (.cells #[.int .i64 a, .int .i64 b] 58)).alloc (.cells #[.int .i64 c, .int .i64 d] 58)).alloc (.cells #[.int .i64 e, .int .i64 f] 58))) :=
    below_alloc' (below_alloc' (below_alloc' (Below.refl _ _) _) _) _
  by_cases h0 : mode = 0
  · subst h0
    go_enter Tryz.func181, Tryz.ntmps181
    go_wp2_with (go_at_call 222; refine (left_any _ _ _ _ _ _ _).mono ?_; rintro r w1 ⟨rfl, hb⟩; obtain ⟨t0, t1, t2⟩ := HT.out.below (below_call HB0.out hb); have HB := Lib.hid hb; clear hb)
    go_ret
    exact ⟨ret_int (leftF_wrap a b c d e f), below_call HB0.out HB.out⟩
  · by_cases h1 : mode = 1
    · subst h1
      go_enter Tryz.func181, Tryz.ntmps181
      go_wp2_with (go_at_call 222; refine (left_any _ _ _ _ _ _ _).mono ?_; rintro r w1 ⟨rfl, hb⟩; obtain ⟨t0, t1, t2⟩ := HT.out.below (below_call HB0.out hb); have HB := Lib.hid hb; clear hb)
      go_ret
      exact ⟨rfl, below_call HB0.out HB.out⟩
    · by_cases h2 : mode = 2
      · subst h2
        go_enter Tryz.func181, Tryz.ntmps181
        go_wp2_with (go_at_call 222; refine (left_any _ _ _ _ _ _ _).mono ?_; rintro r w1 ⟨rfl, hb⟩; obtain ⟨t0, t1, t2⟩ := HT.out.below (below_call HB0.out hb); have HB := Lib.hid hb; clear hb)
        go_ret
        exact ⟨rfl, below_call HB0.out HB.out⟩
      · have b0 : (mode == 0) = false := beq_eq_false_iff_ne.mpr h0
        have b1 : (mode == 1) = false := beq_eq_false_iff_ne.mpr h1
        have b2 : (mode == 2) = false := beq_eq_false_iff_ne.mpr h2
        have HF : Hid (scoreF mode (leftF a b c d e f) pods = 0) := by unfold Hid scoreF; rw [if_neg h0, if_neg h1, if_neg h2]
        clear h0 h1 h2
        go_enter Tryz.func181, Tryz.ntmps181
        go_wp2_with (go_at_call 222; refine (left_any _ _ _ _ _ _ _).mono ?_; rintro r w1 ⟨rfl, hb⟩; have HB := Lib.hid hb; clear hb)
        go_ret
        exact ⟨ret_int HF.out.symm, below_call HB0.out HB.out⟩



end Go.Proofs.YtofofjfmhaggmaaGreatDoor
/-! Append to a row of the call's own; what grows keeps what stands beside it. -/
set_option linter.unusedVariables false
set_option linter.unusedSimpArgs false
namespace Go.Proofs.YtofofjfmhaggmaaGreatDoor.Aq
open Go.RowKit
def laid (cs : Array Value) : Nat → List Value → Array Value
  | _, [] => cs
  | o, v :: r => laid (cs.setIfInBounds o v) (o + 1) r
theorem laid_size : ∀ (vs : List Value) (o : Nat) (cs : Array Value), (laid cs o vs).size = cs.size
  | [], _, _ => rfl
  | v :: r, o, cs => by rw [laid, laid_size r]; simp
theorem laid_get : ∀ (vs : List Value) (o : Nat) (cs : Array Value) (k : Nat), o + vs.length ≤ cs.size → (laid cs o vs)[k]? = if o ≤ k ∧ k < o + vs.length then vs[k - o]? else cs[k]?
  | [], o, cs, k, _ => by simp [laid]; omega
  | v :: r, o, cs, k, h => by
    simp only [List.length_cons] at h
    rw [laid, laid_get r (o + 1) _ k (by simp; omega), Array.getElem?_setIfInBounds]
    by_cases h1 : o + 1 ≤ k ∧ k < o + 1 + r.length
    · rw [if_pos h1, if_pos ⟨by omega, by simp; omega⟩, show k - o = (k - (o + 1)) + 1 by omega, List.getElem?_cons_succ]
    · rw [if_neg h1]
      by_cases h2 : o = k
      · subst h2
        rw [if_pos rfl, if_pos (by omega), if_pos ⟨Nat.le_refl _, by simp⟩]
        simp
      · rw [if_neg h2, if_neg (by simp; omega)]
theorem heap_setCells (g : Nat) (T : TypeId) : ∀ (vs : List Value) (o : Nat) (w : World) (cs : Array Value), w.heap[g]? = some (.cells cs T (0, 0)) → (w.setCells g o vs).heap[g]? = some (.cells (laid cs o vs) T (0, 0))
  | [], _, _, _, h => h
  | v :: r, o, w, cs, h => heap_setCells g T r (o + 1) _ _ (heap_setCell_same _ _ _ _ _ _ h)
theorem gbs (g : Nat) : ∀ (vs : List Value) (o : Nat) (w : World), Gb g w (w.setCells g o vs)
  | [], _, w => Gb.refl g w
  | u :: r, o, w => (Gb.set w g o u).trans (gbs g r (o + 1) _)
theorem keep_setCells (g : Nat) (vs : List Value) (o : Nat) (w : World) : (w.setCells g o vs).os = w.os ∧ (w.setCells g o vs).tape = w.tape ∧ (w.setCells g o vs).output = w.output ∧ w.heap.size ≤ (w.setCells g o vs).heap.size ∧ ∀ k, k < w.heap.size → k ≠ g → (w.setCells g o vs).heap[k]? = w.heap[k]? := by
  have h := gbs g vs o w
  exact ⟨h.os, h.tape, h.output, h.size, fun k hk hne => h.block k hk (by simpa using hne)⟩
theorem own_laidK {w : World} {base n m g cap size : Nat} {e : TypeId} {xs news : List Value} {cur : Array Value} (hg : w.heap[g]? = some (.cells cur e (0, 0))) (h : w.ownsRow base e size (.slice (some ⟨g, 0, none⟩) n cap) n xs) (hn : n + m ≤ cap) (hl : news.length = m * size) :
    (w.setCells g (n * size) news).ownsRow base e size (.slice (some ⟨g, 0, none⟩) (n + m) cap) (n + m) (xs ++ news) := by
  obtain ⟨h1, h2⟩ := h
  obtain ⟨g', cap', cur', e1, hb, hg', hc, hm, hs, ht⟩ := h2.resolve_left (by rintro ⟨h, _⟩; cases h)
  injection e1 with e1 e2 e3
  injection e1 with e1
  injection e1 with e1
  subst e1 e3
  rw [hg] at hg'
  injection hg' with hg'
  injection hg' with hg' _
  subst hg'
  have hcs : (n + m) * size ≤ cap * size := Nat.mul_le_mul_right _ hn
  rw [Nat.add_mul] at hcs
  have hh := heap_setCells g e news (n * size) w cur hg
  refine ⟨by rw [List.length_append, h1, hl, Nat.add_mul], .inr ⟨g, cap, _, rfl, hb, hh, hn, hm, by rw [laid_size]; exact hs, ?_⟩⟩
  · apply List.ext_getElem?
    intro k
    rw [Nat.add_mul]
    by_cases hk : k < n * size
    · rw [List.getElem?_take_of_lt (by omega), List.getElem?_append_left (by omega), ← ht, List.getElem?_take_of_lt hk, Array.getElem?_toList, laid_get _ _ _ _ (by omega), if_neg (by omega), Array.getElem?_toList]
    · by_cases hk2 : k < n * size + m * size
      · rw [List.getElem?_take_of_lt hk2, List.getElem?_append_right (by omega), h1, Array.getElem?_toList, laid_get _ _ _ _ (by omega), if_pos (by omega)]
      · rw [List.getElem?_eq_none (by simp; omega), List.getElem?_eq_none (by simp; omega)]
theorem wp_app_kp {P : Program} {w : World} {o : Oper} {a : Act} {K : Act → World → Prop} {Q : Exit → Act → World → Prop} {t e : TypeId} {size bytes : Nat} (hE : Elt P t e size bytes) (s x : Operand)
    (ho : o.op = .call { callee := .builtin .append, args := #[s, x], argTypes := #[t, t] }) {v : Value} {n m base c : Nat} {ad : Addr} {xs news : List Value} (hs : a.eval s = v) (hx : a.eval x = .slice (some ad) m c)
    (hown : w.ownsRow base e size v n xs) (hl : news.length = m * size) (hnews : ∀ j u, news[j]? = some u → w.cell? (ad.add j) = some u) (h1 : ∀ u ∈ news, u.oneCell' = true) (hn : n + m ≤ 1099511627776) (hbase : base ≤ w.heap.size)
    (h : ∀ v' w', w'.ownsRow base e size v' (n + m) (xs ++ news) → w.grownBy w' v.ownBlock → (v'.ownBlock = v.ownBlock ∨ ∀ g, v'.ownBlock = some g → w.heap.size ≤ g) → K (a.put o.dst v') w') : o.wp P a w K Q := by
  obtain ⟨q1, q2, q3, i, z, q4, q5, q6, q7, q8⟩ := hE
  have hbb : (n + m) * bytes ≤ 1099511627776 * 128 := Nat.mul_le_mul hn q3
  rcases own_forms hown with ⟨rfl, rfl, rfl⟩ | ⟨g, cap, rfl, hgb, hgs⟩
  · exact wp_append_own w s x t ho w.heap.size e i z size bytes q1 q4 q5 q6 q7 q8 q2 _ 0 [] hs (World.ownsRow_nil _ _ _ _) ad m c news hx hl hnews h1 (by unfold maxLen; omega) (by omega) (Nat.le_refl _) fun v' w' a b _ => h v' w' (own_base a hbase) b (.inr fun g hg => (a.lt g hg).1)
  · obtain ⟨_, cap', cur, e1, _, hg, hc, hm, hsz, ht⟩ := hown.2.resolve_left (by rintro ⟨h, _⟩; cases h)
    injection e1 with e1 e2 e3
    injection e1 with e1
    injection e1 with e1
    subst e1 e3
    by_cases hroom : n + m ≤ cap
    · have hms : (n + m) * size ≤ cap * size := Nat.mul_le_mul_right _ hroom
      rw [Nat.add_mul] at hms
      have hr := run_append_room_cells (P := P) w t o.type e i q1 q4 g 0 n cap ad m c news (by rw [q6]; exact hl) hnews h1 hroom
        (fun j hj => by
          rw [q6]
          have : cur[0 + n * size + j]? = some cur[n * size + j] := by rw [Nat.zero_add]; exact Array.getElem?_eq_getElem (by omega)
          rw [cell_of_block hg _ _ this]
          rfl) (fun j hj => free_of_block hg _)
      rw [q6, Nat.zero_add] at hr
      have r1 := own_laidK hg hown hroom hl
      unfold Oper.wp execOp
      simp only [ho, resolve, invoke, builtin, Sem.run_bind, Sem.run_pure, Result.andThen_ok, List.map_toArray, List.map_cons, List.map_nil, hs, hx, hr]
      obtain ⟨k1, k2, k3, k4, k5⟩ := keep_setCells g news (n * size) w
      exact h _ _ r1 ⟨k1, k2, k3, k4, fun k hk hne => k5 k hk fun e => hne (by rw [e]; rfl)⟩ (.inl rfl)
    · obtain ⟨v', w', hr, r1, r2⟩ := run_append_arg_grows (P := P) w t o.type e i z size bytes q1 q4 q5 q6 q7 q8 q2 ⟨g, 0, none⟩ n cap xs hown.1 (own_cells hown) ad m c news hl hnews (by omega) (by unfold maxLen; omega) (by omega)
      unfold Oper.wp execOp
      simp only [ho, resolve, invoke, builtin, Sem.run_bind, Sem.run_pure, Result.andThen_ok, List.map_toArray, List.map_cons, List.map_nil, hs, hx, hr]
      exact h _ _ (own_base r1 hbase) ⟨r2.os, r2.tape, r2.output, r2.size, fun k hk _ => r2.block k hk (by simp)⟩ (.inr fun g hg => (r1.lt g hg).1)
theorem news_at {w : World} {g : Nat} {cs : Array Value} {T : TypeId} (h : w.heap[g]? = some (.cells cs T (0, 0))) : ∀ j u, cs.toList[j]? = some u → w.cell? ((⟨g, 0, none⟩ : Addr).add j) = some u := by
  intro j u hu
  have hadd : (⟨g, 0, none⟩ : Addr).add j = ⟨g, j, none⟩ := by unfold Addr.add; split <;> simp_all
  rw [hadd]
  exact cell_of_block h j u (by simpa using hu)
theorem LowB.of_gr {N : Nat} {row : Option Nat} {w w' : World} (hr : ∀ g, row = some g → N ≤ g) (h : w.grownBy w' row) : LowB N w w' :=
  fun hN => ⟨h.os, h.tape, h.output, h.size, fun k hk => h.block k (Nat.lt_of_lt_of_le hk hN) (fun e => by have := hr k (by first | exact e | exact e.symm); omega)⟩
theorem block_kept {w w' : World} {row : Option Nat} {g : Nat} {o : Obj} (h : w.heap[g]? = some o) (hg : w.grownBy w' row) (hne : row ≠ some g) : w'.heap[g]? = some o :=
  (hg.block g (Array.getElem?_eq_some_iff.1 h).1 (fun e => hne (by first | exact e | exact e.symm))).trans h
end Go.Proofs.YtofofjfmhaggmaaGreatDoor.Aq
/-! Which nodes take a pod, plain; nodes read one by one; Best of nothing. -/
set_option linter.unusedVariables false
set_option linter.unusedSimpArgs false
namespace Go.Proofs.YtofofjfmhaggmaaGreatDoor
open Go.RowKit

theorem candL_take {L : LedL} {own : List PlaceL} {p : PodL} {ns : List NodeL} {j : Nat} {n : NodeL} (hj : j < ns.length) (hn : ns[j] = n) :
    candL L own p (ns.take (j + 1)) = candL L own p (ns.take j) ++ (if whyL p n (ucpu L own n) (umem L own n) (onP n.name own) = 0 then [n] else []) := by
  unfold candL
  rw [List.take_succ_eq_append_getElem hj, List.filter_append, hn]
  congr 1
  by_cases h : whyL p n (ucpu L own n) (umem L own n) (onP n.name own) = 0
  · simp [h]
  · simp [h]
theorem candL_len (L : LedL) (own : List PlaceL) (p : PodL) (ns : List NodeL) : (candL L own p ns).length ≤ ns.length := List.length_filter_le _ _
theorem whyL_pos (p : PodL) (n : NodeL) (c m : Nat) (near : List PlaceL) : whyL p n c m near = 0 ∨ 0 < whyL p n c m near := by
  unfold whyL
  split
  · exact .inr (by decide)
  split
  · exact .inr (by decide)
  split
  · exact .inr (by decide)
  split
  · exact .inr (by decide)
  split
  · exact .inr (by decide)
  split
  · exact .inr (by decide)
  · exact .inl rfl
theorem cells2 {w : World} {g : Nat} {T : TypeId} {a b : Value} (k : w.heap[g]? = some (.cells #[a, b] T (0, 0))) : w.cell? ⟨g, 0, none⟩ = some a ∧ w.cell? ⟨g, 1, none⟩ = some b :=
  ⟨cell_of_block k 0 a rfl, cell_of_block k 1 b rfl⟩
theorem cells5 {w : World} {g : Nat} {T : TypeId} {a b c d e : Value} (k : w.heap[g]? = some (.cells #[a, b, c, d, e] T (0, 0))) : w.cell? ⟨g, 0, none⟩ = some a ∧ w.cell? ⟨g, 1, none⟩ = some b ∧ w.cell? ⟨g, 2, none⟩ = some c ∧ w.cell? ⟨g, 3, none⟩ = some d ∧ w.cell? ⟨g, 4, none⟩ = some e :=
  ⟨cell_of_block k 0 a rfl, cell_of_block k 1 b rfl, cell_of_block k 2 c rfl, cell_of_block k 3 d rfl, cell_of_block k 4 e rfl⟩
theorem cells6 {w : World} {g : Nat} {T : TypeId} {a b c d e f : Value} (k : w.heap[g]? = some (.cells #[a, b, c, d, e, f] T (0, 0))) : w.cell? ⟨g, 0, none⟩ = some a ∧ w.cell? ⟨g, 1, none⟩ = some b ∧ w.cell? ⟨g, 2, none⟩ = some c ∧ w.cell? ⟨g, 3, none⟩ = some d ∧ w.cell? ⟨g, 4, none⟩ = some e ∧ w.cell? ⟨g, 5, none⟩ = some f :=
  ⟨cell_of_block k 0 a rfl, cell_of_block k 1 b rfl, cell_of_block k 2 c rfl, cell_of_block k 3 d rfl, cell_of_block k 4 e rfl, cell_of_block k 5 f rfl⟩
theorem cells7 {w : World} {g : Nat} {T : TypeId} {a b c d e f h : Value} (k : w.heap[g]? = some (.cells #[a, b, c, d, e, f, h] T (0, 0))) : w.cell? ⟨g, 0, none⟩ = some a ∧ w.cell? ⟨g, 1, none⟩ = some b ∧ w.cell? ⟨g, 2, none⟩ = some c ∧ w.cell? ⟨g, 3, none⟩ = some d ∧ w.cell? ⟨g, 4, none⟩ = some e ∧ w.cell? ⟨g, 5, none⟩ = some f ∧ w.cell? ⟨g, 6, none⟩ = some h :=
  ⟨cell_of_block k 0 a rfl, cell_of_block k 1 b rfl, cell_of_block k 2 c rfl, cell_of_block k 3 d rfl, cell_of_block k 4 e rfl, cell_of_block k 5 f rfl, cell_of_block k 6 h rfl⟩
theorem put5 {w : World} {g : Nat} {T : TypeId} {a b c d e : Value} (x0 x1 x2 x3 x4 : Value) (h : w.heap[g]? = some (.cells #[a, b, c, d, e] T (0, 0))) :
    (((((w.setCell ⟨g, 0, none⟩ x0).setCell ⟨g, 1, none⟩ x1).setCell ⟨g, 2, none⟩ x2).setCell ⟨g, 3, none⟩ x3).setCell ⟨g, 4, none⟩ x4).heap[g]? = some (.cells #[x0, x1, x2, x3, x4] T (0, 0)) ∧
    Gb g w (((((w.setCell ⟨g, 0, none⟩ x0).setCell ⟨g, 1, none⟩ x1).setCell ⟨g, 2, none⟩ x2).setCell ⟨g, 3, none⟩ x3).setCell ⟨g, 4, none⟩ x4) := by
  refine ⟨?_, ((((Gb.set _ _ _ _).trans (Gb.set _ _ _ _)).trans (Gb.set _ _ _ _)).trans (Gb.set _ _ _ _)).trans (Gb.set _ _ _ _)⟩
  rw [heap_setCell_same _ g 4 #[x0, x1, x2, x3, e] T x4 (by
    rw [heap_setCell_same _ g 3 #[x0, x1, x2, d, e] T x3 (by
      rw [heap_setCell_same _ g 2 #[x0, x1, c, d, e] T x2 (by
        rw [heap_setCell_same _ g 1 #[x0, b, c, d, e] T x1 (by rw [heap_setCell_same w g 0 #[a, b, c, d, e] T x0 h]; rfl)]; rfl)]; rfl)]; rfl)]
  rfl
/-- A row of nodes, cell by cell. -/
theorem nodes_at {Q : Nat → Prop} {w : World} {v : Value} {ns : List NodeL} (h : NodesQ Q w v ns) : ∃ a c, v = .slice a ns.length c ∧ ∀ i (hi : i < ns.length), ∃ b u x, a = some ⟨b, 0, none⟩ ∧ b < w.heap.size ∧ ns.length ≤ c ∧
    w.cell? ⟨b, i * 6, none⟩ = some (.string (str ns[i].name)) ∧ w.cell? ⟨b, i * 6 + 1, none⟩ = some (.int .i64 ns[i].cpu) ∧ w.cell? ⟨b, i * 6 + 2, none⟩ = some (.int .i64 ns[i].mem) ∧ w.cell? ⟨b, i * 6 + 3, none⟩ = some u ∧ w.cell? ⟨b, i * 6 + 4, none⟩ = some x ∧ w.cell? ⟨b, i * 6 + 5, none⟩ = some (.bool ns[i].closed) ∧
    StrsQ Q w u ns[i].marks ∧ StrsQ Q w x ns[i].taints := by
  obtain ⟨c, hr, hc⟩ := h
  have hl : ∀ i, i < ns.length → (c i).length = 6 := fun i hi => by obtain ⟨u, x, e, _⟩ := hc i hi; rw [e]; rfl
  rcases own_forms hr.1 with ⟨rfl, h0, h1⟩ | ⟨g, cap, rfl, _, hg⟩
  · exact ⟨_, _, by rw [h0], fun i hi => by omega⟩
  · refine ⟨_, _, rfl, fun i hi => ?_⟩
    obtain ⟨u, x, e, h1, h2⟩ := hc i hi
    obtain ⟨_, cap', cur, e1, _, _, hcap, _⟩ := hr.1.2.resolve_left (by rintro ⟨h, _⟩; cases h)
    injection e1 with _ _ e3
    have k : ∀ j, j < 6 → w.cell? ⟨g, i * 6 + j, none⟩ = (c i)[j]? := fun j hj => by
      rw [hr.1.cellAt (i * 6 + j) (by omega), flat_get hl hi hj]
    rw [e] at k
    exact ⟨g, u, x, rfl, hg, by omega, k 0 (by omega), k 1 (by omega), k 2 (by omega), k 3 (by omega), k 4 (by omega), k 5 (by omega), h1, h2⟩
theorem best_nil (a b : Option Addr) (c d : Nat) (w : World) : Calls Tryz.prog 182 #[.slice a 0 c, .slice b 0 d] w fun e w' => e = .returned (.int .i64 (-1)) ∧ w' = w := by
  go_enter Tryz.func182, Tryz.ntmps182
  go_wp2_with fail
  go_loopw [5, 10] (fun b i wr => b = .int .i64 (-1) ∧ i = .int .i64 0 ∧ w = wr) (fun _ i _ => 0)
  case atStart => exact ⟨rfl, rfl, rfl⟩
  case round =>
    obtain ⟨rfl, rfl, rfl⟩ := hrel
    go_wp2
    go_ret
    exact ⟨rfl, rfl⟩
end Go.Proofs.YtofofjfmhaggmaaGreatDoor
