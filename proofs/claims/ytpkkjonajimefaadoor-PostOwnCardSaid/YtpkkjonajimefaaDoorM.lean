/- What the laws make of numbers: marks, peers, pods. -/
import Derived.Test.YtpkkjonajimefaaDoorT
import Derived.Test.YtpkkjonajimefaaDoorB
import Derived.Deep.DeepCutAuto
import Derived.Test.YtpkkjonajimefaaDoorH
set_option linter.unusedVariables false
set_option linter.unusedSimpArgs false
namespace Go.Proofs.YtpkkjonajimefaaDoor
open Go.RowKit

def setL : List ByteArray := [⟨#[98, 105, 103]⟩, ⟨#[115, 115, 100]⟩, ⟨#[119, 101, 115, 116]⟩, ⟨#[206, 179]⟩]
/-- Marks by a number: the first k looked at. -/
def setM (n : Int) : Nat → List ByteArray
  | 0 => []
  | k + 1 => if (n / 2 ^ k) % 2 = 1 then setM n k ++ [setL.getD k ByteArray.empty] else setM n k
theorem setM_len (n : Int) : ∀ k, (setM n k).length ≤ k
  | 0 => Nat.le_refl _
  | k + 1 => by
    have := setM_len n k
    unfold setM
    split
    · simp; omega
    · omega

theorem within2_one (a : Int) (h : a % 2 = 1) (w : World) : Calls Tryd.prog 53 #[.int .i64 a, .int .i64 2] w fun e w' => e = .returned (.int .i64 1) ∧ w = w' := by
  refine (within2_any a 2 (by omega) (by omega) w).mono ?_
  rintro e w' ⟨rfl, rfl⟩
  exact ⟨by rw [h], rfl⟩
theorem within2_nil (a : Int) (h : ¬ a % 2 = 1) (w : World) : Calls Tryd.prog 53 #[.int .i64 a, .int .i64 2] w fun e w' => e = .returned (.int .i64 0) ∧ w = w' := by
  refine (within2_any a 2 (by omega) (by omega) w).mono ?_
  rintro e w' ⟨rfl, rfl⟩
  exact ⟨by rw [show a % 2 = 0 by omega], rfl⟩

theorem grown_keep {w w' : World} {row : Option Nat} {g : Nat} {o : Obj} (h : w.grownBy w' row) (hz : w.heap[g]? = some o) (hne : ∀ k, row = some k → k ≠ g) : w'.heap[g]? = some o :=
  (h.block g (Array.getElem?_eq_some_iff.1 hz).1 (fun e => hne g e.symm rfl)).trans hz
theorem setM_yes {n : Int} {k : Nat} (h : n / 2 ^ k % 2 = 1) : setM n (k + 1) = setM n k ++ [setL.getD k ByteArray.empty] := by
  show (if _ then _ else _) = _
  rw [if_pos h]
theorem setM_no {n : Int} {k : Nat} (h : ¬ n / 2 ^ k % 2 = 1) : setM n (k + 1) = setM n k := by
  show (if _ then _ else _) = _
  rw [if_neg h]

set_option maxHeartbeats 1000000 in
set_option maxRecDepth 100000 in
theorem set_any (n : Int) (w : World) : Calls Tryd.prog 48 #[.int .i64 n] w fun e w' => ∃ v, e = .returned v ∧ Strs w.heap.size w' v (setM n 4) ∧ Below w.heap.size w w' := by
  go_enter Tryd.func48, Tryd.ntmps48
  go_wp2
  generalize hw1 : World.alloc w _ = w1
  have hb1 : Below w.heap.size w w1 := by rw [← hw1]; exact below_alloc' (Below.refl _ _) _
  have z1 : w1.heap[w.heap.size]? = some (.cells #[.string ⟨#[98, 105, 103]⟩, .string ⟨#[115, 115, 100]⟩, .string ⟨#[119, 101, 115, 116]⟩, .string ⟨#[206, 179]⟩] 9 (0, 0)) := by rw [← hw1]; exact alloc_at _ _
  clear hw1
  have HB1 := Lib.hid hb1
  have Z1 := Lib.hid z1
  clear hb1 z1
  go_loopw [4, 5] (fun v i wr => ∃ k : Nat, i = .int .i64 k ∧ k ≤ 4 ∧ Strs (w.heap.size + 1) wr v (setM n k) ∧ Below w.heap.size w wr ∧ wr.heap[w.heap.size]? = some (.cells #[.string ⟨#[98, 105, 103]⟩, .string ⟨#[115, 115, 100]⟩, .string ⟨#[119, 101, 115, 116]⟩, .string ⟨#[206, 179]⟩] 9 (0, 0))) (fun _ i _ => 4 - (intOf i).toNat)
  case atStart => exact ⟨0, rfl, by omega, World.ownsRow_nil _ _ _ _, HB1.out, Z1.out⟩
  case round =>
    obtain ⟨k, rfl, hk, hown, hbw, hz⟩ := hrel
    have HO := Lib.hid hown
    have HB := Lib.hid hbw
    have HZ := Lib.hid hz
    clear hown hbw hz
    by_cases hlt : k < 4
    · have hlt' : (k : Int) < 4 := by omega
      obtain ⟨d, hd⟩ : ∃ d, setL.getD k ByteArray.empty = d := ⟨_, rfl⟩
      have ci : wr.cell? ⟨w.heap.size, k, none⟩ = some (.string d) := cell_of_block HZ.out k _ (by
        match k, hlt, hd with
        | 0, _, hd => cases hd; rfl
        | 1, _, hd => cases hd; rfl
        | 2, _, hd => cases hd; rfl
        | 3, _, hd => cases hd; rfl)
      have HD := Lib.hid hd
      have HL := Lib.hid (setM_len n k)
      clear hd
      by_cases h1 : n / 2 ^ k % 2 = 1
      · have HH := Lib.hid h1
        clear h1
        go_wp2_with (first | (go_at_call 53; refine (within2_one _ HH.out _).mono ?_; rintro r w5 ⟨rfl, rfl⟩) | (at_builtin; refine list_appends elt_strs _ _ rfl rfl rfl rfl (World.ownsRow.alloc HO.out _) (show [Value.string d].length = 1 * 1 from rfl) (news_one (alloc_at _ _)) (by simp [Value.oneCell']) (by have := HL.out; omega) (by have := (Array.getElem?_eq_some_iff.1 HZ.out).1; simp; omega) ?_; intro v' w6 hown hgrow; have HO6 := Lib.hid hown; have HG6 := Lib.hid hgrow; clear hown hgrow))
        go_roundw
        case rel =>
          have hrow : ∀ k, Value.ownBlock _ = some k → w.heap.size + 1 ≤ k := fun k hk => (HO.out.lt k hk).1
          refine ⟨k + 1, by go_num, by omega, ?_, (below_alloc' HB.out _).grown HG6.out (by have := HB.out.size; simp; omega) (fun k hk => Nat.le_trans (Nat.le_succ _) (hrow k hk)), grown_keep HG6.out (block_below HZ.out (below_alloc' (Below.refl _ _) _)) (fun k hk e => by have := hrow k hk; omega)⟩
          have := HO6.out
          unfold Strs
          rw [setM_yes HH.out, HD.out, List.map_append, List.length_append]
          exact this
        case measure => simp [intOf]; omega
      · have HH := Lib.hid h1
        clear h1
        go_wp2_with (go_at_call 53; refine (within2_nil _ HH.out _).mono ?_; rintro r w5 ⟨rfl, rfl⟩)
        go_roundw
        case rel => exact ⟨k + 1, by go_num, by omega, by rw [setM_no HH.out]; exact HO.out, HB.out, HZ.out⟩
        case measure => simp [intOf]; omega
    · obtain rfl : k = 4 := by omega
      go_wp2
      go_ret
      exact ⟨_, rfl, own_base HO.out (Nat.le_succ _), HB.out⟩

/-- Peers by a number: the first k looked at. -/
def peersM (n : Int) : Nat → List Int
  | 0 => []
  | k + 1 => if n / 2 ^ (k + 1) % 2 = 1 ∨ k = 3 ∧ (peersM n k).length = 0 then peersM n k ++ [((k + 1 : Nat) : Int)] else peersM n k
theorem peersM_yes {n : Int} {k : Nat} (h : n / 2 ^ (k + 1) % 2 = 1 ∨ k = 3 ∧ (peersM n k).length = 0) : peersM n (k + 1) = peersM n k ++ [((k + 1 : Nat) : Int)] := by
  show (if _ then _ else _) = _
  rw [if_pos h]
theorem peersM_no {n : Int} {k : Nat} (h : ¬ (n / 2 ^ (k + 1) % 2 = 1 ∨ k = 3 ∧ (peersM n k).length = 0)) : peersM n (k + 1) = peersM n k := by
  show (if _ then _ else _) = _
  rw [if_neg h]
theorem peersM_len (n : Int) : ∀ k, (peersM n k).length ≤ k
  | 0 => Nat.le_refl _
  | k + 1 => by
    have := peersM_len n k
    unfold peersM
    split
    · simp; omega
    · omega
theorem within4_one (a : Int) (h : a % 2 = 1) (w : World) : Calls Tryd.prog 38 #[.int .i64 a, .int .i64 2] w fun e w' => e = .returned (.int .i64 1) ∧ w = w' := by
  refine (within4_any a 2 (by omega) (by omega) w).mono ?_
  rintro e w' ⟨rfl, rfl⟩
  exact ⟨by rw [h], rfl⟩
theorem within4_nil (a : Int) (h : ¬ a % 2 = 1) (w : World) : Calls Tryd.prog 38 #[.int .i64 a, .int .i64 2] w fun e w' => e = .returned (.int .i64 0) ∧ w = w' := by
  refine (within4_any a 2 (by omega) (by omega) w).mono ?_
  rintro e w' ⟨rfl, rfl⟩
  exact ⟨by rw [show a % 2 = 0 by omega], rfl⟩

set_option maxHeartbeats 2000000 in
set_option maxRecDepth 100000 in
theorem peers_any (n : Int) (w : World) : Calls Tryd.prog 28 #[.int .i64 n] w fun e w' => ∃ v, e = .returned v ∧ Ints w.heap.size w' v (peersM n 4) ∧ Below w.heap.size w w' := by
  go_enter Tryd.func28, Tryd.ntmps28
  go_wp2
  go_loopw [3, 4] (fun v i wr => ∃ k : Nat, i = .int .i64 (k + 1 : Nat) ∧ k ≤ 4 ∧ Ints w.heap.size wr v (peersM n k) ∧ Below w.heap.size w wr) (fun _ i _ => 5 - (intOf i).toNat)
  case atStart => exact ⟨0, rfl, by omega, World.ownsRow_nil _ _ _ _, Below.refl _ _⟩
  case round =>
    obtain ⟨k, rfl, hk, hown, hbw⟩ := hrel
    obtain ⟨a, c, rfl⟩ := own_slicen hown
    have HO := Lib.hid hown
    have HB := Lib.hid hbw
    have HL := Lib.hid (peersM_len n k)
    clear hown hbw
    by_cases hlt : k < 4
    · have hlt' : (k : Int) < 4 := by omega
      by_cases h1 : n / 2 ^ (k + 1) % 2 = 1
      · have HH := Lib.hid h1
        clear h1
        go_wp2_with (first | (go_at_call 38; refine (within4_one _ HH.out _).mono ?_; rintro r w5 ⟨rfl, rfl⟩) | (at_builtin; refine list_appends elt_ints _ _ rfl rfl rfl rfl (World.ownsRow.alloc HO.out _) (show [Value.int .i64 ((k + 1 : Nat) : Int)].length = 1 * 1 from rfl) (news_one (alloc_at _ _)) (by simp [Value.oneCell']) (by have := HL.out; omega) (by have := HB.out.size; simp; omega) ?_; intro v' w6 hown hgrow; have HO6 := Lib.hid hown; have HG6 := Lib.hid hgrow; clear hown hgrow))
        go_roundw
        case rel =>
          refine ⟨k + 1, by go_num, by omega, ?_, (below_alloc' HB.out _).grown HG6.out (by have := HB.out.size; simp; omega) (fun k hk => (HO.out.lt k hk).1)⟩
          have := HO6.out
          unfold Ints
          rw [peersM_yes (.inl HH.out), List.map_append, List.length_append]
          exact this
        case measure => simp [intOf]; omega
      · have HH := Lib.hid h1
        clear h1
        by_cases h3 : k = 3
        · subst h3
          by_cases h0 : (peersM n 3).length = 0
          · have hz : ((((peersM n 3).length : Nat) : Int) == 0) = true := by rw [h0]; rfl
            have H0 := Lib.hid h0
            clear h0
            go_wp2_with (first | (go_at_call 38; refine (within4_nil _ HH.out _).mono ?_; rintro r w5 ⟨rfl, rfl⟩) | (at_builtin; refine list_appends elt_ints _ _ rfl rfl rfl rfl (World.ownsRow.alloc HO.out _) (show [Value.int .i64 4].length = 1 * 1 from rfl) (news_one (alloc_at _ _)) (by simp [Value.oneCell']) (by have := HL.out; omega) (by have := HB.out.size; simp; omega) ?_; intro v' w6 hown hgrow; have HO6 := Lib.hid hown; have HG6 := Lib.hid hgrow; clear hown hgrow))
            go_roundw
            case rel =>
              refine ⟨3 + 1, by go_num, by omega, ?_, (below_alloc' HB.out _).grown HG6.out (by have := HB.out.size; simp; omega) (fun k hk => (HO.out.lt k hk).1)⟩
              have := HO6.out
              unfold Ints
              rw [peersM_yes (.inr ⟨rfl, H0.out⟩), List.map_append, List.length_append]
              exact this
            case measure => simp [intOf]
          · have hz : ((((peersM n 3).length : Nat) : Int) == 0) = false := beq_eq_false_iff_ne.mpr (by omega)
            have H0 := Lib.hid h0
            clear h0
            go_wp2_with (go_at_call 38; refine (within4_nil _ HH.out _).mono ?_; rintro r w5 ⟨rfl, rfl⟩)
            go_roundw
            case rel => exact ⟨3 + 1, by go_num, by omega, by rw [peersM_no (fun h => h.elim HH.out (fun h => H0.out h.2))]; exact HO.out, HB.out⟩
            case measure => simp [intOf]
        · have hne : (((k : Int) + 1) == 4) = false := beq_eq_false_iff_ne.mpr (by omega)
          have H3 := Lib.hid h3
          clear h3
          go_wp2_with (go_at_call 38; refine (within4_nil _ HH.out _).mono ?_; rintro r w5 ⟨rfl, rfl⟩)
          go_roundw
          case rel => exact ⟨k + 1, by go_num, by omega, by rw [peersM_no (fun h => h.elim HH.out (fun h => H3.out h.1))]; exact HO.out, HB.out⟩
          case measure => simp [intOf]; omega
    · obtain rfl : k = 4 := by omega
      go_wp2
      go_ret
      exact ⟨_, rfl, HO.out, HB.out⟩

theorem within3_val (a m r : Int) (hm : 0 < m) (hb : m ≤ 4611686018427387904) (hr : a % m = r) (w : World) : Calls Tryd.prog 47 #[.int .i64 a, .int .i64 m] w fun e w' => e = .returned (.int .i64 r) ∧ w = w' := by
  refine (within3_any a m hm hb w).mono ?_
  rintro e w' ⟨rfl, rfl⟩
  exact ⟨by rw [hr], rfl⟩
/-- Go's quotient. -/
abbrev qd (n k : Int) : Int := wrap64 (n.tdiv k)
/-- A pod by a number. -/
def podM (at' : Nat) (n shards : Int) : PodM :=
  ⟨⟨#[112, UInt8.ofNat (97 + at')]⟩, 1 + n % shards, qd n 4 % 5, qd n 20 % 5, if qd n 100 % 5 = 0 then setM (qd n 500) 4 else [], if qd n 7 % 3 = 0 then setM (qd n 11) 4 else [], decide (qd n 13 % 6 = 0)⟩
theorem podM_few (at' : Nat) (n shards : Int) : (podM at' n shards).picks.length ≤ 1073741824 ∧ (podM at' n shards).bears.length ≤ 1073741824 := by
  unfold podM
  dsimp only
  have h1 := setM_len (qd n 500) 4
  have h2 := setM_len (qd n 11) 4
  constructor
  · split
    · omega
    · simp
  · split
    · omega
    · simp

/-- A pod's block. -/
def PodIn (base g : Nat) (w : World) (p : PodM) : Prop := ∃ u v, w.heap[g]? = some (.cells #[.string p.name, .int .i64 p.shard, .int .i64 p.cpu, .int .i64 p.mem, u, v, .bool p.alone] 53 (0, 0)) ∧ Strs base w u p.picks ∧ Strs base w v p.bears
theorem PodIn.below {base g : Nat} {w w' : World} {p : PodM} (h : PodIn base g w p) (hb : Below w.heap.size w w') : PodIn base g w' p := by
  obtain ⟨u, v, h1, h2, h3⟩ := h
  exact ⟨u, v, block_below h1 hb, own_below h2 hb, own_below h3 hb⟩
theorem PodIn.picks {base g : Nat} {w : World} {p : PodM} (h : PodIn base g w p) {u : Value} {l : List ByteArray} (hu : Strs base w u l) : PodIn base g (w.setCell ⟨g, 4, none⟩ u) { p with picks := l } := by
  obtain ⟨u', v, h1, h2, h3⟩ := h
  have k := (But.set w g 4 u).still h1 (T := fun e => e = 9) (by decide)
  exact ⟨u, v, heap_setCell_same _ _ _ _ _ _ h1, hu.still' k, Strs.still' h3 k⟩
theorem PodIn.bears {base g : Nat} {w : World} {p : PodM} (h : PodIn base g w p) {u : Value} {l : List ByteArray} (hu : Strs base w u l) : PodIn base g (w.setCell ⟨g, 5, none⟩ u) { p with bears := l } := by
  obtain ⟨u', v, h1, h2, h3⟩ := h
  have k := (But.set w g 5 u).still h1 (T := fun e => e = 9) (by decide)
  exact ⟨u', u, heap_setCell_same _ _ _ _ _ _ h1, Strs.still' h2 k, hu.still' k⟩
theorem PodIn.alone {base g : Nat} {w : World} {p : PodM} (h : PodIn base g w p) (b : Bool) : PodIn base g (w.setCell ⟨g, 6, none⟩ (.bool b)) { p with alone := b } := by
  obtain ⟨u, v, h1, h2, h3⟩ := h
  have k := (But.set w g 6 (.bool b)).still h1 (T := fun e => e = 9) (by decide)
  exact ⟨u, v, heap_setCell_same _ _ _ _ _ _ h1, Strs.still' h2 k, Strs.still' h3 k⟩

set_option maxHeartbeats 4000000 in
set_option maxRecDepth 100000 in
theorem pod_any (at' : Nat) (hat : at' < 20) (n shards : Int) (hs : 0 < shards) (hs4 : shards ≤ 4) (w : World) : Calls Tryd.prog 37 #[.int .i64 at', .int .i64 n, .int .i64 shards] w fun e w' => ∃ cs, e = .returned (.agg cs.toArray) ∧ PodAt w.heap.size w' cs (podM at' n shards) ∧ Below w.heap.size w w' := by
  have hat' : (at' : Int) < 20 := by omega
  obtain ⟨bt, hbt, eb⟩ : ∃ bt : UInt8, bt = UInt8.ofNat (97 + at') ∧ (bt.toNat : Int) = 97 + at' := ⟨_, rfl, by
    rw [show (UInt8.ofNat (97 + at')).toNat = (97 + at') % 256 from UInt8.toNat_ofNat', Nat.mod_eq_of_lt (by omega)]; omega⟩
  have EB := Lib.hid eb
  have HBT := Lib.hid hbt
  clear eb hbt
  have k97 : IntKind.i64.wrap (97 + (at' : Int)) = 97 + at' := kwid (by omega) (by omega)
  have k8 : IntKind.u8.wrap (97 + (at' : Int)) = 97 + at' := IntWalk.u8_in _ (by omega)
  have kq1 : IntKind.i64.wrap (1 + n % shards) = 1 + n % shards := by
    have q1 := Int.emod_lt_of_pos n hs
    have q2 := Int.emod_nonneg n (show shards ≠ 0 by omega)
    exact kwid (by omega) (by omega)
  go_enter Tryd.func37, Tryd.ntmps37
  go_wp2
  generalize hw1 : World.alloc w _ = w1
  have hb1 : Below w.heap.size w w1 := by rw [← hw1]; exact below_alloc' (Below.refl _ _) _
  have z1 : w1.heap[w.heap.size]? = some (.cells #[.string ⟨#[]⟩, .int .i64 0, .int .i64 0, .int .i64 0, .slice none 0 0, .slice none 0 0, .bool false] 53 (0, 0)) := by rw [← hw1]; exact alloc_at _ _
  clear hw1
  have HB1 := Lib.hid hb1
  have Z1 := Lib.hid z1
  clear hb1 z1
  refine' Par.wp_region_pars (fun w w' => Below w.heap.size w w') 19 (by kernel_rfl) (by kernel_rfl) (by kernel_rfl) (by kernel_rfl) (by kernel_rfl) (by kernel_rfl)
    (fun w => Below.refl _ w) (fun h k => below_call h k) (fun vals => ?_)
  rotate_left
  simp only [List.take_succ_cons, List.take_zero, List.drop_succ_cons, List.drop_zero]
  (apply Par.par_x rfl; (focus (intro w6 hR hD K hK; replace hK := Lib.hid hK; skip; clear hR hD; go_simp; exact hK.out _ (Below.refl _ _))); simp only [Act.put, List.setIfInBounds_toArray, List.set_cons_zero, List.set_cons_succ, Nat.reduceAdd, List.cons_append, List.nil_append])
  (apply Par.par_x rfl; (focus (intro w6 hR hD K hK; replace hK := Lib.hid hK; skip; clear hR hD; go_simp; exact hK.out _ (Below.refl _ _))); simp only [Act.put, List.setIfInBounds_toArray, List.set_cons_zero, List.set_cons_succ, Nat.reduceAdd, List.cons_append, List.nil_append])
  (apply Par.par_x rfl; (focus (intro w6 hR hD K hK; replace hK := Lib.hid hK; skip; clear hR hD; go_simp; exact hK.out _ (Below.refl _ _))); simp only [Act.put, List.setIfInBounds_toArray, List.set_cons_zero, List.set_cons_succ, Nat.reduceAdd, List.cons_append, List.nil_append])
  (apply Par.par_r (fun v w' => ∃ g, v = .slice (some ⟨g, 0, none⟩) 1 1 ∧ w'.heap[g]? = some (.cells #[.int .u8 (97 + (at' : Int))] 5 (0, 0))) rfl (row_keep _ _ _); (focus (intro w6 hR hD K hK; replace hK := Lib.hid hK; clear hR hD; go_simp; exact hK.out _ _ (below_alloc' (Below.refl _ _) _) ⟨_, rfl, alloc_at _ _⟩)); simp only [Act.put, List.setIfInBounds_toArray, List.set_cons_zero, List.set_cons_succ, Nat.reduceAdd, List.cons_append, List.nil_append])
  (apply Par.par_x rfl; (focus (intro w6 hR hD K hK; replace hK := Lib.hid hK; obtain ⟨g, eg, hg⟩ : ∃ g, vals 3 = .slice (some ⟨g, 0, none⟩) 1 1 ∧ w6.heap[g]? = some (.cells #[.int .u8 (97 + (at' : Int))] 5 (0, 0)) := hD 3 (by kernel_rfl); simp only [eg] at hK ⊢; have kc : (convert 77 9 (.slice (some ⟨g, 0, none⟩) 1 1)).run Tryd.prog w6 = .ok (.string (str [bt])) w6 := run_convert_bytes_back _ 77 9 5 ⟨g, 0, none⟩ 1 [bt] (by kernel_rfl) (by kernel_rfl) (by kernel_rfl) (fun j hj => by (obtain rfl : j = 0 := by simpa using hj); exact cell_of_block hg 0 _ (by simp [EB.out])); clear hR hD hg eg; go_simp; exact hK.out _ (Below.refl _ _))); simp only [Act.put, List.setIfInBounds_toArray, List.set_cons_zero, List.set_cons_succ, Nat.reduceAdd, List.cons_append, List.nil_append])
  (apply Par.par_x rfl; (focus (intro w6 hR hD K hK; replace hK := Lib.hid hK; have hz : (str [bt]).size = 1 := rfl; clear hR hD; go_simp; exact hK.out _ (Below.refl _ _))); simp only [Act.put, List.setIfInBounds_toArray, List.set_cons_zero, List.set_cons_succ, Nat.reduceAdd, List.cons_append, List.nil_append])
  (apply Par.par_x rfl; (focus (intro w6 hR hD K hK; replace hK := Lib.hid hK; skip; clear hR hD; go_simp; exact hK.out _ (Below.refl _ _))); simp only [Act.put, List.setIfInBounds_toArray, List.set_cons_zero, List.set_cons_succ, Nat.reduceAdd, List.cons_append, List.nil_append])
  (apply Par.par_x rfl; (focus (intro w6 hR hD K hK; replace hK := Lib.hid hK; skip; clear hR hD; go_simp; exact hK.out _ (Below.refl _ _))); simp only [Act.put, List.setIfInBounds_toArray, List.set_cons_zero, List.set_cons_succ, Nat.reduceAdd, List.cons_append, List.nil_append])
  (apply Par.par_x rfl; (focus (intro w6 hR hD K hK; replace hK := Lib.hid hK; clear hR hD; go_simp; refine (within3_any n shards hs (by omega) _).mono ?_; rintro r w7 ⟨rfl, rfl⟩; exact hK.out _ (Below.refl _ _))); simp only [Act.put, List.setIfInBounds_toArray, List.set_cons_zero, List.set_cons_succ, Nat.reduceAdd, List.cons_append, List.nil_append])
  (apply Par.par_x rfl; (focus (intro w6 hR hD K hK; replace hK := Lib.hid hK; have q1 := Int.emod_lt_of_pos n hs; have q2 := Int.emod_nonneg n (show shards ≠ 0 by omega); clear hR hD; go_simp; exact hK.out _ (Below.refl _ _))); simp only [Act.put, List.setIfInBounds_toArray, List.set_cons_zero, List.set_cons_succ, Nat.reduceAdd, List.cons_append, List.nil_append])
  (apply Par.par_x rfl; (focus (intro w6 hR hD K hK; replace hK := Lib.hid hK; skip; clear hR hD; go_simp; exact hK.out _ (Below.refl _ _))); simp only [Act.put, List.setIfInBounds_toArray, List.set_cons_zero, List.set_cons_succ, Nat.reduceAdd, List.cons_append, List.nil_append])
  (apply Par.par_x rfl; (focus (intro w6 hR hD K hK; replace hK := Lib.hid hK; skip; clear hR hD; go_simp; exact hK.out _ (Below.refl _ _))); simp only [Act.put, List.setIfInBounds_toArray, List.set_cons_zero, List.set_cons_succ, Nat.reduceAdd, List.cons_append, List.nil_append])
  (apply Par.par_x rfl; (focus (intro w6 hR hD K hK; replace hK := Lib.hid hK; clear hR hD; go_simp; refine (within3_any _ 5 (by omega) (by omega) _).mono ?_; rintro r w7 ⟨rfl, rfl⟩; exact hK.out _ (Below.refl _ _))); simp only [Act.put, List.setIfInBounds_toArray, List.set_cons_zero, List.set_cons_succ, Nat.reduceAdd, List.cons_append, List.nil_append])
  (apply Par.par_x rfl; (focus (intro w6 hR hD K hK; replace hK := Lib.hid hK; skip; clear hR hD; go_simp; exact hK.out _ (Below.refl _ _))); simp only [Act.put, List.setIfInBounds_toArray, List.set_cons_zero, List.set_cons_succ, Nat.reduceAdd, List.cons_append, List.nil_append])
  (apply Par.par_x rfl; (focus (intro w6 hR hD K hK; replace hK := Lib.hid hK; skip; clear hR hD; go_simp; exact hK.out _ (Below.refl _ _))); simp only [Act.put, List.setIfInBounds_toArray, List.set_cons_zero, List.set_cons_succ, Nat.reduceAdd, List.cons_append, List.nil_append])
  (apply Par.par_x rfl; (focus (intro w6 hR hD K hK; replace hK := Lib.hid hK; clear hR hD; go_simp; refine (within3_any _ 5 (by omega) (by omega) _).mono ?_; rintro r w7 ⟨rfl, rfl⟩; exact hK.out _ (Below.refl _ _))); simp only [Act.put, List.setIfInBounds_toArray, List.set_cons_zero, List.set_cons_succ, Nat.reduceAdd, List.cons_append, List.nil_append])
  (apply Par.par_x rfl; (focus (intro w6 hR hD K hK; replace hK := Lib.hid hK; skip; clear hR hD; go_simp; exact hK.out _ (Below.refl _ _))); simp only [Act.put, List.setIfInBounds_toArray, List.set_cons_zero, List.set_cons_succ, Nat.reduceAdd, List.cons_append, List.nil_append])
  (apply Par.par_x rfl; (focus (intro w6 hR hD K hK; replace hK := Lib.hid hK; skip; clear hR hD; go_simp; exact hK.out _ (Below.refl _ _))); simp only [Act.put, List.setIfInBounds_toArray, List.set_cons_zero, List.set_cons_succ, Nat.reduceAdd, List.cons_append, List.nil_append])
  (apply Par.par_r (fun v w' => ∃ g, v = .pointer (some ⟨g, 0, none⟩) ∧ w.heap.size < g ∧ w'.heap[g]? = some (.cells #[.string ⟨#[]⟩, .int .i64 0, .int .i64 0, .int .i64 0, .slice none 0 0, .slice none 0 0, .bool false] 53 (0, 0))) rfl (fun v w1 w2 h k => by obtain ⟨g, h1, h2, h3⟩ := h; exact ⟨g, h1, h2, block_below h3 k⟩); (focus (intro w6 hR hD K hK; replace hK := Lib.hid hK; have hlt : w.heap.size < w6.heap.size := Nat.lt_of_lt_of_le (Array.getElem?_eq_some_iff.1 Z1.out).1 hR.size; have HLT := Lib.hid hlt; clear hR hD hlt; go_simp; exact hK.out _ _ (below_alloc' (Below.refl _ _) _) ⟨_, rfl, HLT.out, alloc_at _ _⟩)); simp only [Act.put, List.setIfInBounds_toArray, List.set_cons_zero, List.set_cons_succ, Nat.reduceAdd, List.cons_append, List.nil_append])
  refine Par.par_end fun w6 hR hp => ?_
  obtain ⟨g, eg, hg, z6⟩ := hp 18 (by simp)
  clear hp
  simp only [eg]
  obtain ⟨nm, hnm⟩ : ∃ nm : ByteArray, nm = ⟨#[112]⟩ ++ str [bt] := ⟨_, rfl⟩
  rw [← hnm]
  have HNM := Lib.hid hnm
  clear hnm
  have n0 := cell_of_block z6 0 _ rfl
  have n1 := cell_of_block z6 1 _ rfl
  have n2 := cell_of_block z6 2 _ rfl
  have n3 := cell_of_block z6 3 _ rfl
  have n4 := cell_of_block z6 4 _ rfl
  have n5 := cell_of_block z6 5 _ rfl
  have n6 := cell_of_block z6 6 _ rfl
  have fr := free_of_block z6
  have Z6 := Lib.hid z6
  have z1' := block_below (w := w1.drew) Z1.out hR
  have hb6 := below_call HB1.out.drew hR
  have Z1' := Lib.hid z1'
  have HB6 := Lib.hid hb6
  clear z6 hR z1' hb6 eg
  obtain ⟨r1, hr1⟩ : ∃ r, qd n 100 % 5 = r := ⟨_, rfl⟩
  obtain ⟨r2, hr2⟩ : ∃ r, qd n 7 % 3 = r := ⟨_, rfl⟩
  obtain ⟨r3, hr3⟩ : ∃ r, qd n 13 % 6 = r := ⟨_, rfl⟩
  have HM := Lib.hid (show podM at' n shards = ⟨nm, 1 + n % shards, qd n 4 % 5, qd n 20 % 5, if r1 = 0 then setM (qd n 500) 4 else [], if r2 = 0 then setM (qd n 11) 4 else [], r3 == 0⟩ by
    unfold podM
    rw [hr1, hr2, hr3, HNM.out, HBT.out]
    rfl)
  have HR1 := Lib.hid hr1
  have HR2 := Lib.hid hr2
  have HR3 := Lib.hid hr3
  clear hr1 hr2 hr3
  go_upto_if 29 with (go_at_call 47; refine (within3_val _ 5 r1 (by omega) (by omega) HR1.out _).mono ?_; rintro r w7 ⟨rfl, rfl⟩)
  obtain ⟨zf, hbf⟩ := set7 w6 g _ _ (.string nm) (.int .i64 (1 + n % shards)) (.int .i64 (qd n 4 % 5)) (.int .i64 (qd n 20 % 5)) (.slice none 0 0) (.slice none 0 0) (.bool false) Z6.out rfl
  generalize hwf : World.setCell _ _ _ = wf at zf hbf ⊢
  clear hwf n0 n1 n2 n3 n4 n5 n6 fr
  have hP : PodIn w.heap.size g wf ⟨nm, 1 + n % shards, qd n 4 % 5, qd n 20 % 5, [], [], false⟩ := ⟨_, _, zf, World.ownsRow_nil _ _ _ _, World.ownsRow_nil _ _ _ _⟩
  have hQ : wf.heap[w.heap.size]? = some (.cells #[.string ⟨#[]⟩, .int .i64 0, .int .i64 0, .int .i64 0, .slice none 0 0, .slice none 0 0, .bool false] 53 (0, 0)) := (hbf.block _ (Array.getElem?_eq_some_iff.1 Z1'.out).1 (by omega)).trans Z1'.out
  have hB : Below w.heap.size w wf := Below.but HB6.out hbf (by omega) HB6.out.size
  have HP := Lib.hid hP
  have HQ := Lib.hid hQ
  have HB := Lib.hid hB
  have hgw : g < wf.heap.size := (Array.getElem?_eq_some_iff.1 zf).1
  have HGW := Lib.hid hgw
  clear hP hQ hB zf hbf HNM HBT EB k97 k8 hgw
  go_cut [] (fun wx => PodIn w.heap.size g wx ⟨nm, 1 + n % shards, qd n 4 % 5, qd n 20 % 5, if r1 = 0 then setM (qd n 500) 4 else [], [], false⟩ ∧ Below w.heap.size w wx ∧ wx.heap[w.heap.size]? = some (.cells #[.string ⟨#[]⟩, .int .i64 0, .int .i64 0, .int .i64 0, .slice none 0 0, .slice none 0 0, .bool false] 53 (0, 0)))
  case first =>
    by_cases h : r1 = 0
    · have hb : (r1 == 0) = true := by rw [h]; rfl
      rw [hb]
      have HE := Lib.hid h
      clear h hb
      go_wp2_with (go_at_call 48; refine (set_any _ _).mono ?_; rintro r w7 ⟨v, rfl, hv, hb7⟩; obtain ⟨a, l, c, rfl⟩ := own_slice hv; have hP7 := HP.out.below hb7; obtain ⟨_, _, hh, _⟩ := hP7; have c4 := cell_of_block hh 4 _ rfl; have fr := free_of_block hh 4; have HH := Lib.hid hh; have HV := Lib.hid hv; have HB7 := Lib.hid hb7; clear hv hb7 hh)
      go_meet
      rw [if_pos HE.out]
      refine ⟨(HP.out.below HB7.out).picks (own_base HV.out HB.out.size), (below_call HB.out HB7.out).setCell (Nat.le_of_lt hg) _, ?_⟩
      rw [Below.heap_setCell _ _ _ _ (by simp; omega)]
      exact block_below HQ.out HB7.out
    · have hb : (r1 == 0) = false := beq_eq_false_iff_ne.mpr h
      rw [hb]
      have HE := Lib.hid h
      clear h hb
      go_wp2
      go_meet
      rw [if_neg HE.out]
      exact ⟨HP.out, HB.out, HQ.out⟩
  case rest =>
    obtain ⟨hP, hB, hQ⟩ := hcut
    clear HP HQ HB HGW
    have HP := Lib.hid hP
    have HQ := Lib.hid hQ
    have HB := Lib.hid hB
    clear hP hQ hB
    go_upto_if 37 with (go_at_call 47; refine (within3_val _ 3 r2 (by omega) (by omega) HR2.out _).mono ?_; rintro r w7 ⟨rfl, rfl⟩)
    go_cut [] (fun wx => PodIn w.heap.size g wx ⟨nm, 1 + n % shards, qd n 4 % 5, qd n 20 % 5, if r1 = 0 then setM (qd n 500) 4 else [], if r2 = 0 then setM (qd n 11) 4 else [], false⟩ ∧ Below w.heap.size w wx ∧ wx.heap[w.heap.size]? = some (.cells #[.string ⟨#[]⟩, .int .i64 0, .int .i64 0, .int .i64 0, .slice none 0 0, .slice none 0 0, .bool false] 53 (0, 0)))
    case first =>
      by_cases h : r2 = 0
      · have hb : (r2 == 0) = true := by rw [h]; rfl
        rw [hb]
        have HE := Lib.hid h
        clear h hb
        go_wp2_with (go_at_call 48; refine (set_any _ _).mono ?_; rintro r w7 ⟨v, rfl, hv, hb7⟩; obtain ⟨a, l, c, rfl⟩ := own_slice hv; have hP7 := HP.out.below hb7; obtain ⟨_, _, hh, _⟩ := hP7; have c4 := cell_of_block hh 5 _ rfl; have fr := free_of_block hh 5; have HH := Lib.hid hh; have HV := Lib.hid hv; have HB7 := Lib.hid hb7; clear hv hb7 hh)
        go_meet
        rw [if_pos HE.out]
        refine ⟨(HP.out.below HB7.out).bears (own_base HV.out HB.out.size), (below_call HB.out HB7.out).setCell (Nat.le_of_lt hg) _, ?_⟩
        rw [Below.heap_setCell _ _ _ _ (by simp; omega)]
        exact block_below HQ.out HB7.out
      · have hb : (r2 == 0) = false := beq_eq_false_iff_ne.mpr h
        rw [hb]
        have HE := Lib.hid h
        clear h hb
        go_wp2
        go_meet
        rw [if_neg HE.out]
        exact ⟨HP.out, HB.out, HQ.out⟩
    case rest =>
      obtain ⟨hP, hB, hQ⟩ := hcut
      clear HP HQ HB
      have HP := Lib.hid hP
      have HQ := Lib.hid hQ
      have HB := Lib.hid hB
      obtain ⟨_, _, hh, hu1, hu2⟩ := hP
      obtain ⟨a1, l1, c1, rfl⟩ := own_slice hu1
      obtain ⟨a2, l2, c2, rfl⟩ := own_slice hu2
      have m6 := cell_of_block hh 6 _ rfl
      have fr := free_of_block hh
      have HH := Lib.hid hh
      have HU1 := Lib.hid hu1
      have HU2 := Lib.hid hu2
      clear hB hQ hh hu1 hu2
      go_upto_region 7 with (go_at_call 47; refine (within3_val _ 6 r3 (by omega) (by omega) HR3.out _).mono ?_; rintro r w7 ⟨rfl, rfl⟩)
      have hP8 := PodIn.alone (show PodIn w.heap.size g wc ⟨nm, 1 + n % shards, qd n 4 % 5, qd n 20 % 5, if r1 = 0 then setM (qd n 500) 4 else [], if r2 = 0 then setM (qd n 11) 4 else [], false⟩ from ⟨_, _, HH.out, HU1.out, HU2.out⟩) (r3 == 0)
      have hQ8 := block_below HQ.out (Below.refl wc.heap.size wc)
      rw [← Below.heap_setCell wc ⟨g, 6, none⟩ (.bool (r3 == 0)) w.heap.size (by simp; omega)] at hQ8
      have hB8 := HB.out.setCell (Nat.le_of_lt hg) (p := ⟨g, 6, none⟩) (.bool (r3 == 0))
      generalize hw8 : World.setCell _ _ _ = w8 at hP8 hQ8 hB8 ⊢
      clear hw8 m6 fr HH HU1 HU2 HQ HB
      obtain ⟨_, _, hh, hu1, hu2⟩ := hP8
      obtain ⟨a1, l1, c1, rfl⟩ := own_slice hu1
      obtain ⟨a2, l2, c2, rfl⟩ := own_slice hu2
      have m0 := cell_of_block hh 0 _ rfl
      have m1 := cell_of_block hh 1 _ rfl
      have m2 := cell_of_block hh 2 _ rfl
      have m3 := cell_of_block hh 3 _ rfl
      have m4 := cell_of_block hh 4 _ rfl
      have m5 := cell_of_block hh 5 _ rfl
      have m6 := cell_of_block hh 6 _ rfl
      have n0 := cell_of_block hQ8 0 _ rfl
      have n1 := cell_of_block hQ8 1 _ rfl
      have n2 := cell_of_block hQ8 2 _ rfl
      have n3 := cell_of_block hQ8 3 _ rfl
      have n4 := cell_of_block hQ8 4 _ rfl
      have n5 := cell_of_block hQ8 5 _ rfl
      have n6 := cell_of_block hQ8 6 _ rfl
      have fr := free_of_block hQ8
      have HU1 := Lib.hid hu1
      have HU2 := Lib.hid hu2
      have HB8 := Lib.hid hB8
      have HQ8 := Lib.hid hQ8
      clear hh hu1 hu2 hB8 hQ8
      go_wp2
      obtain ⟨zf, hbf⟩ := set7 w8 w.heap.size _ _ (.string nm) (.int .i64 (1 + n % shards)) (.int .i64 (qd n 4 % 5)) (.int .i64 (qd n 20 % 5)) (.slice a1 l1 c1) (.slice a2 l2 c2) (.bool (r3 == 0)) HQ8.out rfl
      generalize hwf : World.setCell _ _ _ = wf at zf hbf ⊢
      clear hwf m0 m1 m2 m3 m4 m5 m6 n0 n1 n2 n3 n4 n5 n6 fr
      have f0 := cell_of_block zf 0 _ rfl
      have f1 := cell_of_block zf 1 _ rfl
      have f2 := cell_of_block zf 2 _ rfl
      have f3 := cell_of_block zf 3 _ rfl
      have f4 := cell_of_block zf 4 _ rfl
      have f5 := cell_of_block zf 5 _ rfl
      have f6 := cell_of_block zf 6 _ rfl
      have hst := hbf.still (T := fun e => e = 9) HQ8.out (by decide)
      exact bodyPost_ret (v := .agg #[.string nm, .int .i64 (1 + n % shards), .int .i64 (qd n 4 % 5), .int .i64 (qd n 20 % 5), .slice a1 l1 c1, .slice a2 l2 c2, .bool (r3 == 0)]) (by simp [results, Tryd.results37, go_sem, f0, f1, f2, f3, f4, f5, f6]) rfl
        ⟨[.string nm, .int .i64 (1 + n % shards), .int .i64 (qd n 4 % 5), .int .i64 (qd n 20 % 5), .slice a1 l1 c1, .slice a2 l2 c2, .bool (r3 == 0)], rfl, by rw [HM.out]; exact ⟨_, _, rfl, HU1.out.still' hst, HU2.out.still' hst⟩, Below.but HB8.out hbf (Nat.le_refl _) HB8.out.size⟩
end Go.Proofs.YtpkkjonajimefaaDoor
