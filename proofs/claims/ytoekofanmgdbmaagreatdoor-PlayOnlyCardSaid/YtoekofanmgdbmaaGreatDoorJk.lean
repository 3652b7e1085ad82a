/- An event as a line. -/
import Derived.Test.YtoekofanmgdbmaaGreatDoorJg
import Derived.Test.YtoekofanmgdbmaaGreatDoorJi
set_option linter.unusedVariables false
set_option linter.unusedSimpArgs false
namespace Go.Proofs.YtoekofanmgdbmaaGreatDoor
open Go.RowKit

theorem join_strs' (w : World) (g cap base : Nat) (xs : List (List UInt8)) (h : w.ownsRow base 9 1 (.slice (some ⟨g, 0, none⟩) xs.length cap) xs.length (xs.map fun l => .string (str l))) (hx : xs.length ≤ 4294967296) (hl : (Lib.join xs [32]).length ≤ 140737488355328) :
    Calls Tryz.prog 36 #[.slice (some ⟨g, 0, none⟩) xs.length cap, .string ⟨#[32]⟩] w fun e w' => e = .returned (.string (str (Lib.join xs [32]))) ∧ Below w.heap.size w w' := by
  have e1 : (xs.map str).map (fun b : ByteArray => b.data.toList) = xs := by
    rw [List.map_map]
    conv => rhs; rw [← List.map_id xs]
    exact List.map_congr_left fun l _ => by simp [str]
  have hg : g < w.heap.size := by
    rcases own_forms h with ⟨h0, _⟩ | ⟨g', cap', h0, _, h1⟩
    · simp at h0
    · simp only [Value.slice.injEq, Option.some.injEq, Addr.mk.injEq, and_true, true_and] at h0
      rw [h0.1]; exact h1
  have hcap : xs.length ≤ cap := by
    rcases h.2 with ⟨h0, _⟩ | ⟨g', cap', cur, h0, _, _, h1, _⟩
    · simp at h0
    · simp only [Value.slice.injEq, Option.some.injEq, Addr.mk.injEq, and_true, true_and] at h0
      rw [h0.2]; exact h1
  have := Tryz.strings_Join g 0 cap (xs.map str) ⟨#[32]⟩ w (fun j x hj => by
    have hj' : j < xs.length := by have := (List.getElem?_eq_some_iff.1 hj).1; simpa using this
    rw [Nat.zero_add, h.cellAt j (by omega), List.getElem?_map]
    rw [List.getElem?_map] at hj
    obtain ⟨l, hl, rfl⟩ := Option.map_eq_some_iff.1 hj
    rw [hl]; rfl) hg (by simp; omega) (by simpa using hcap) (by rw [e1]; exact hl)
  rw [e1, List.length_map] at this
  exact this
def wordsE (k : Nat) (s : EvS) : List (List UInt8) :=
  verb k :: Lib.decDigits (if k = 1 then s.id else s.a) :: (if k = 1 then s.pods.map podT else if k = 4 then [nodeT s.node] else if k = 5 then [s.node.name] else if k = 10 then [Lib.decDigits s.b] else [])
def textE (k : Nat) (s : EvS) : List UInt8 := Lib.join (wordsE k s) [32]
structure EvB (k : Nat) (s : EvS) : Prop where
  a : s.a ≤ 999999
  b : s.b ≤ 999999
  id : s.id ≤ 999999
  pods : ∀ p ∈ s.pods, p.shard ≤ 999999 ∧ p.cpu ≤ 1099511627776 ∧ p.mem ≤ 1099511627776 ∧ (podT p).length ≤ 4294967000
  few : s.pods.length ≤ 4294967000
  node : s.node.cpu ≤ 9223372036854775807 ∧ s.node.mem ≤ 9223372036854775807 ∧ (nodeT s.node).length ≤ 4294967000 ∧ s.node.marks.length ≤ 4294967281 ∧ s.node.taints.length ≤ 4294967281
  text : (textE k s).length ≤ 140737488355328
theorem verb_at {k : Nat} (h1 : 1 ≤ k) (h2 : k ≤ 11) : ∃ h : k - 1 < verbs.length, verbs[k - 1] = verb k := by
  have h : k - 1 < verbs.length := by show k - 1 < 11; omega
  refine ⟨h, ?_⟩
  unfold verb
  rw [List.getD_eq_getElem?_getD, List.getElem?_eq_getElem h]
  rfl
theorem shape_is {k : Nat} : shapeOf k = ⟨#[97, 112]⟩ ∧ k = 1 ∨ shapeOf k = ⟨#[97, 110]⟩ ∧ k = 4 ∨ shapeOf k = ⟨#[97, 109]⟩ ∧ k = 5 ∨ shapeOf k = ⟨#[97, 98]⟩ ∧ k = 10 ∨ shapeOf k = ⟨#[97]⟩ ∧ k ≠ 1 ∧ k ≠ 4 ∧ k ≠ 5 ∧ k ≠ 10 := by
  unfold shapeOf
  by_cases h1 : k = 1
  · exact .inl ⟨by simp [h1], h1⟩
  · by_cases h4 : k = 4
    · exact .inr (.inl ⟨by simp [h4], h4⟩)
    · by_cases h5 : k = 5
      · exact .inr (.inr (.inl ⟨by simp [h5], h5⟩))
      · by_cases h10 : k = 10
        · exact .inr (.inr (.inr (.inl ⟨by simp [h10], h10⟩)))
        · exact .inr (.inr (.inr (.inr ⟨by simp [h1, h4, h5, h10], h1, h4, h5, h10⟩)))
theorem shape_a (k : Nat) : 0 < (shapeOf k).size ∧ Utf8.decode (shapeOf k) 0 = (97, 1) := by
  rcases shape_is (k := k) with ⟨h, _⟩ | ⟨h, _⟩ | ⟨h, _⟩ | ⟨h, _⟩ | ⟨h, _⟩ <;> rw [h] <;> exact ⟨by decide, by decide +kernel⟩
theorem trim_node (l : List UInt8) (w : World) : Calls Tryz.prog 33 #[.string (str ([110, 111, 100, 101, 32] ++ l)), .string ⟨#[110, 111, 100, 101, 32]⟩] w fun e w' => e = .returned (.string (str l)) ∧ w = w' := by
  refine (Tryz.strings_TrimPrefix (str ([110, 111, 100, 101, 32] ++ l)) ⟨#[110, 111, 100, 101, 32]⟩ w).mono ?_
  rintro e w' ⟨rfl, rfl⟩
  have h3 : (⟨#[110, 111, 100, 101, 32]⟩ : ByteArray).data.toList = [110, 111, 100, 101, 32] := rfl
  refine ⟨?_, rfl⟩
  rw [str_data, h3]
  simp [Lib.trimPrefix, Lib.hasPrefix, str]
theorem cell_below_lt {w w' : World} {B g j : Nat} {v : Value} (h : w.cell? ⟨g, j, none⟩ = some v) (hg : g < B) (hb : Below B w w') : w'.cell? ⟨g, j, none⟩ = some v := (hb.cell hg).trans h
set_option maxHeartbeats 8000000 in
set_option maxRecDepth 1000000 in
theorem text_any (k : Nat) (hk1 : 1 ≤ k) (hk2 : k ≤ 11) (s : EvS) (base : Nat) (v : Value) (w : World) (ht : Tabs w) (hv : EvR base w v k s) (hb : EvB k s) :
    Calls Tryz.prog 13 #[v] w fun e w' => e = .returned (.string (str (textE k s))) ∧ Below w.heap.size w w' := by
  have HT := Lib.hid ht
  have HB := Lib.hid hb
  obtain ⟨vp, u, x, rfl, hp, hu, hx⟩ := hv
  obtain ⟨cp, hcp, hel⟩ := id hp
  obtain ⟨avp, cvp, rfl⟩ := own_slicen hcp
  obtain ⟨au, lu, cu, rfl⟩ := own_slice hu
  obtain ⟨ax, lx, cx, rfl⟩ := own_slice hx
  obtain ⟨np, hnp⟩ : ∃ n, s.pods.length = n := ⟨_, rfl⟩
  rw [hnp] at hcp
  rw [hnp]
  have HNP := Lib.hid hnp
  have HCP := Lib.hid hcp
  have HEL := Lib.hid hel
  have HU := Lib.hid hu
  have HX := Lib.hid hx
  obtain ⟨zn, hzn⟩ : ∃ z, str s.node.name = z := ⟨_, rfl⟩
  obtain ⟨n2, hn2⟩ : ∃ z, s.node.cpu = z := ⟨_, rfl⟩
  obtain ⟨n3, hn3⟩ : ∃ z, s.node.mem = z := ⟨_, rfl⟩
  obtain ⟨fl, hfl⟩ : ∃ z, s.node.closed = z := ⟨_, rfl⟩
  obtain ⟨na, hna⟩ : ∃ z, s.a = z := ⟨_, rfl⟩
  obtain ⟨nb, hnb⟩ : ∃ z, s.b = z := ⟨_, rfl⟩
  obtain ⟨ni, hni⟩ : ∃ z, s.id = z := ⟨_, rfl⟩
  rw [hzn, hn2, hn3, hfl, hna, hnb, hni]
  have HZN := Lib.hid hzn
  have HN2 := Lib.hid hn2
  have HN3 := Lib.hid hn3
  have HFL := Lib.hid hfl
  have HNA := Lib.hid hna
  have HNB := Lib.hid hnb
  have HNI := Lib.hid hni
  clear ht hb hp hcp hel hu hx hnp hzn hn2 hn3 hfl hna hnb hni
  go_enter Tryz.func13, Tryz.ntmps13
  go_wp2_with fail
  have hb0 : Below w.heap.size w (w.alloc (.cells #[.int .i64 k, .int .i64 na, .int .i64 nb, .int .i64 ni, .slice avp np cvp, .string zn, .int .i64 n2, .int .i64 n3, .slice au lu cu, .slice ax lx cx, .bool fl] 33)) := below_alloc' (Below.refl _ _) _
  have hz0 : (w.alloc (.cells #[.int .i64 k, .int .i64 na, .int .i64 nb, .int .i64 ni, .slice avp np cvp, .string zn, .int .i64 n2, .int .i64 n3, .slice au lu cu, .slice ax lx cx, .bool fl] 33)).heap[w.heap.size]? = some (.cells #[.int .i64 k, .int .i64 na, .int .i64 nb, .int .i64 ni, .slice avp np cvp, .string zn, .int .i64 n2, .int .i64 n3, .slice au lu cu, .slice ax lx cx, .bool fl] 33 (0, 0)) := alloc_at _ _
  generalize World.alloc w _ = w1 at hb0 hz0 ⊢
  refine (fields_const _ verbs verbs_fields (by decide +kernel) (by decide) _ (HT.out.below hb0)).mono ?_
  rintro e w2 ⟨rfl, hf, hb2⟩
  rw [show verbs.length = 11 from rfl]
  obtain ⟨hvl, hve⟩ := verb_at hk1 hk2
  have cf := hf.cell hvl
  rw [hve] at cf
  obtain ⟨zv, hzv⟩ : ∃ z, str (verb k) = z := ⟨_, rfl⟩
  rw [hzv] at cf
  have HZV := Lib.hid hzv
  have hz2 := block_below hz0 hb2
  have hB2 := below_call hb0 hb2
  have e0 := cell_of_block hz2 0 _ rfl
  have HZ := Lib.hid hz2
  have HB2 := Lib.hid hB2
  have hk1' : (1 : Int) ≤ k := by omega
  have hk2' : (k : Int) ≤ 11 := by omega
  have hk3' : ¬ (k : Int) - 1 < 0 := by omega
  have hk4' : (k : Int) - 1 < 11 := by omega
  have hki : ((k : Int) - 1).toNat = k - 1 := by omega
  have hkw : wrap64 ((k : Int) - 1) = (k : Int) - 1 := wid (by omega) (by omega)
  clear hb0 hz0 hf hb2 hz2 hB2 hve hzv hvl
  go_wp2_with (at_builtin; (refine list_appends elt_strs _ _ rfl rfl rfl rfl (World.ownsRow_nil _ (w.heap.size + 1) _ _) (show [Value.string zv].length = 1 * 1 from rfl) (news_one' (alloc_at _ _)) (by simp [Value.oneCell']) (by omega) (by have := (Array.getElem?_eq_some_iff.1 HZ.out).1; simp; omega) ?_); intro v' w4 hown hgrow; replace hgrow : World.grownBy _ _ none := hgrow; have HO4 := Lib.hid hown; have z4 := grown_at hgrow (block_below HZ.out (below_alloc' (Below.refl _ _) _)) (fun k hk => by cases hk); have HB4 := Lib.hid ((below_call HB2.out (below_alloc' (Below.refl w2.heap.size w2) (.cells #[.string zv] 9))).grown hgrow (by have := HB2.out.size; simp; omega) (fun k hk => by cases hk)); have q0 := cell_of_block z4 0 _ rfl; have HZ4 := Lib.hid z4; clear hown hgrow z4)
  /-GEN-/
  refine (shape_any k w4).mono ?_
  rintro e w5 ⟨rfl, hw5⟩
  rw [hw5]
  clear hw5 w5 cf hki hkw hk3' hk4' e0 q0
  rcases shape_is (k := k) with ⟨hsh, hkk⟩ | ⟨hsh, hkk⟩ | ⟨hsh, hkk⟩ | ⟨hsh, hkk⟩ | ⟨hsh, hkk⟩
  · rw [hsh]
    have bk : ((k : Int) == 1) = true := by rw [hkk]; rfl
    go_wp2_with fail
    refine wp_loop_rounds 4 ?_
    rw [rounds_succ]
    have hnx : ∀ ty, (Instr.next (.pointer (some ⟨w4.heap.size, 0, none⟩)) true ty).run Tryz.prog (w4.iter ⟨#[97, 112]⟩ 0) = .ok (.tuple #[.bool true, .int .i64 (0 : Nat), .int .i32 (97 : Nat)]) (w4.iter ⟨#[97, 112]⟩ 1) := fun ty => by
      rw [run_next_any w4 ⟨#[97, 112]⟩ 0 ty (by decide), show Utf8.decode ⟨#[97, 112]⟩ 0 = (97, 1) by decide +kernel]; rfl
    have hi5 : (w4.iter ⟨#[97, 112]⟩ 1).heap[w4.heap.size]? = some (.stringIter ⟨#[97, 112]⟩ 1) := World.iter_heap _ _ _
    have hb5 : Below w4.heap.size w4 (w4.iter ⟨#[97, 112]⟩ 1) := below_alloc' (Below.refl _ _) _
    have z5 := block_below HZ4.out hb5
    have r0 := cell_of_block z5 0 _ rfl
    have r1 := cell_of_block z5 1 _ rfl
    have rq := cell_of_block z5 3 _ rfl
    have HZ5 := Lib.hid z5
    have HI5 := Lib.hid hi5
    have HB5 := Lib.hid (below_call HB4.out hb5)
    have HO5 := Lib.hid (own_below HO4.out hb5)
    have HG5 := Lib.hid (show w4.heap.size < (w4.iter ⟨#[97, 112]⟩ 1).heap.size from (Array.getElem?_eq_some_iff.1 hi5).1)
    clear z5 hi5 hb5
    generalize w4.iter ⟨#[97, 112]⟩ 1 = w6 at *
    go_wp2_with fail
    refine (itoa_nat w6 (HT.out.below HB5.out) ni (by have := (show ni ≤ 999999 by rw [← HNI.out]; exact HB.out.id); omega)).mono ?_
    rintro e w7 ⟨rfl, hb7⟩
    have HI7 := Lib.hid (block_below HI5.out hb7)
    have HO7 := Lib.hid (own_below HO5.out hb7)
    have HZ7 := Lib.hid (block_below HZ5.out hb7)
    have HB7 := Lib.hid (below_call HB5.out hb7)
    have HG7 := Lib.hid (show w.heap.size + 1 ≤ w7.heap.size from by have := (Array.getElem?_eq_some_iff.1 HZ7.out).1; omega)
    have HX4 := Lib.hid (fun g hg => HO4.out.lt g hg : ∀ g, v'.ownBlock = some g → w.heap.size + 1 ≤ g ∧ g < w4.heap.size)
    clear hb7 hnx r0 r1 rq
    go_wp2_with (at_builtin; (refine list_appends elt_strs _ _ rfl rfl rfl rfl (World.ownsRow.alloc HO7.out _) (show [Value.string (str (Lib.decDigits ni))].length = 1 * 1 from rfl) (news_one' (alloc_at _ _)) (by simp [Value.oneCell']) (by omega) (by have := HG7.out; simp; omega) ?_); intro v2 w8 hown hgrow; replace hgrow : World.grownBy _ _ (Value.ownBlock v') := hgrow; have HO8 := Lib.hid hown; have HGR8 := Lib.hid hgrow; clear hown hgrow)
    have hi8 := grown_at HGR8.out (block_below HI7.out (below_alloc' (Below.refl _ _) _)) (fun g hg e => by have := (HX4.out g hg).2; omega)
    have hz8 := grown_at HGR8.out (block_below HZ7.out (below_alloc' (Below.refl _ _) _)) (fun g hg e => by have := (HX4.out g hg).1; omega)
    have hb8 := (below_call HB7.out (below_alloc' (Below.refl w7.heap.size w7) (.cells #[.string (str (Lib.decDigits ni))] 9))).grown HGR8.out (by have := HB7.out.size; simp; omega) (fun g hg => Nat.le_trans (Nat.le_succ _) (HX4.out g hg).1)
    have HB8 := Lib.hid hb8
    have HZ8 := Lib.hid hz8
    have hnx2 : ∀ ty, (Instr.next (.pointer (some ⟨w4.heap.size, 0, none⟩)) true ty).run Tryz.prog w8 = .ok (.tuple #[.bool true, .int .i64 (1 : Nat), .int .i32 (112 : Nat)]) (w8.iterAt w4.heap.size ⟨#[97, 112]⟩ 2) := fun ty => by
      rw [Lib.run_next_any_at w8 _ _ 1 ty hi8 (by decide), show Utf8.decode ⟨#[97, 112]⟩ 1 = (112, 1) by decide +kernel]; rfl
    have hK9 := Kc.iterAt hi8 2
    have hi9 := Lib.iterAt_heap w8 w4.heap.size ⟨#[97, 112]⟩ 1 2 hi8
    have hb9 := Lib.below_iterAt hb8 (show w.heap.size ≤ w4.heap.size from HB4.out.size) ⟨#[97, 112]⟩ 2
    have hz9 := hK9 _ _ _ hz8
    have ho9 := own_kc HO8.out hK9
    have HI9 := Lib.hid hi9
    have HB9 := Lib.hid hb9
    have HZ9 := Lib.hid hz9
    have HO9 := Lib.hid ho9
    have HG9 := Lib.hid (show w.heap.size + 1 ≤ (w8.iterAt w4.heap.size ⟨#[97, 112]⟩ 2).heap.size from (Array.getElem?_eq_some_iff.1 hz9).1)
    have HJ9 := Lib.hid (show w4.heap.size < w8.heap.size from (Array.getElem?_eq_some_iff.1 hi8).1)
    have HX9 := Lib.hid (fun g hg => HO8.out.lt g hg : ∀ g, v2.ownBlock = some g → w.heap.size + 1 ≤ g ∧ g < w8.heap.size)
    have hne8 : ∀ g, v2.ownBlock = some g → g ≠ w4.heap.size := fun g hg e => by
      obtain ⟨ds, hds⟩ := own_block HO8.out hg
      rw [e, hi8] at hds
      cases hds
    have HNE := Lib.hid hne8
    have p0 := cell_of_block hz9 0 _ rfl
    have p4 := cell_of_block hz9 4 _ rfl
    clear hne8 hb8 hz8 hi8 hi9 hb9 hz9 ho9 hK9
    rw [rounds_succ]
    go_wp2_with fail
    clear hnx2
    have HGW := Lib.hid (show w.heap.size + 1 ≤ w4.heap.size from by have := (Array.getElem?_eq_some_iff.1 HZ4.out).1; omega)
    have hnp4 : np ≤ 4294967000 := by rw [← HNP.out]; exact HB.out.few
    go_loopw [3, 85] (fun u x wr => ∃ i : Nat, x = .int .i64 i ∧ i ≤ np ∧ wr.ownsRow (w.heap.size + 1) 9 1 u (2 + i) (([verb k, Lib.decDigits ni] ++ (s.pods.take i).map podT).map fun l => .string (str l)) ∧ Below w.heap.size w wr ∧ wr.heap[w4.heap.size]? = some (.stringIter ⟨#[97, 112]⟩ 2)) (fun _ x _ => np - (intOf x).toNat)
    case atStart =>
      refine ⟨0, rfl, Nat.zero_le _, ?_, HB9.out, HI9.out⟩
      have := HO9.out
      rw [← HZV.out] at this
      exact this
    case round =>
      obtain ⟨i, rfl, hi, how, hbr, hir⟩ := hrel
      have HOW := Lib.hid how
      have HBR := Lib.hid hbr
      have HIR := Lib.hid hir
      have HLT := Lib.hid (fun g hg => how.lt g hg : ∀ g, Value.ownBlock _ = some g → w.heap.size + 1 ≤ g ∧ g < wr.heap.size)
      have hne8 : ∀ g, Value.ownBlock _ = some g → g ≠ w4.heap.size := fun g hg e => by
        obtain ⟨ds, hds⟩ := own_block how hg
        rw [e, hir] at hds
        cases hds
      have HNR := Lib.hid hne8
      clear how hbr hir hne8
      by_cases hin : i < np
      · have hil : i < s.pods.length := by rw [HNP.out]; exact hin
        have hin' : (i : Int) < np := by omega
        obtain ⟨gp, cpp, hgp, hgb, hgs⟩ := (own_forms HCP.out).resolve_left (by rintro ⟨_, h, _⟩; omega)
        have hap : avp = some ⟨gp, 0, none⟩ := by injection hgp
        subst hap
        have hlc : ∀ q, q < np → (cp q).length = 7 := fun q hq => (HEL.out q (by rw [HNP.out]; exact hq)).len
        have hcell : ∀ j, j < 7 → wr.cell? ⟨gp, i * 7 + j, none⟩ = (cp i)[j]? := fun j hj => by
          have h1 := HCP.out.cellAt (i * 7 + j) (by omega)
          rw [flat_get hlc hin hj] at h1
          have hj2 : j < (cp i).length := by rw [hlc i hin]; exact hj
          rw [List.getElem?_eq_getElem hj2] at h1 ⊢
          have h2 := HCP.out
          exact cell_below_lt h1 hgs HBR.out
        obtain ⟨pu, pv, hci, htu, htv⟩ := id (HEL.out i hil)
        have hpt := (HEL.out i hil).below HBR.out
        rw [hci] at hcell hpt
        obtain ⟨au', cu', rfl, -⟩ := htu
        obtain ⟨av', cv', rfl, -⟩ := htv
        have hpb := HB.out.pods _ (List.getElem_mem hil)
        have hnxt : s.pods.take (i + 1) = s.pods.take i ++ [s.pods[i]] := List.take_succ_eq_append_getElem hil
        obtain ⟨P, hP⟩ : ∃ P, s.pods[i] = P := ⟨_, rfl⟩
        rw [hP] at hcell hpt hpb hnxt
        have c0 := hcell 0 (by omega)
        have c1 := hcell 1 (by omega)
        have c2 := hcell 2 (by omega)
        have c3 := hcell 3 (by omega)
        have c4 := hcell 4 (by omega)
        have c5 := hcell 5 (by omega)
        have c6 := hcell 6 (by omega)
        simp only [List.getElem?_cons_zero, List.getElem?_cons_succ, Nat.add_zero] at c0 c1 c2 c3 c4 c5 c6
        have HPT := Lib.hid hpt
        have HPB := Lib.hid hpb
        have HNXT := Lib.hid hnxt
        obtain ⟨zp, hzp⟩ : ∃ z, str P.name = z := ⟨_, rfl⟩
        obtain ⟨m1, hm1⟩ : ∃ z, P.shard = z := ⟨_, rfl⟩
        obtain ⟨m2, hm2⟩ : ∃ z, P.cpu = z := ⟨_, rfl⟩
        obtain ⟨m3, hm3⟩ : ∃ z, P.mem = z := ⟨_, rfl⟩
        obtain ⟨m4, hm4⟩ : ∃ z, P.alone = z := ⟨_, rfl⟩
        obtain ⟨m5, hm5⟩ : ∃ z, P.picks.length = z := ⟨_, rfl⟩
        obtain ⟨m6, hm6⟩ : ∃ z, P.bears.length = z := ⟨_, rfl⟩
        rw [hzp] at c0
        rw [hm1] at c1
        rw [hm2] at c2
        rw [hm3] at c3
        rw [hm5] at c4
        rw [hm6] at c5
        rw [hm4] at c6
        have HZP := Lib.hid hzp
        have HM1 := Lib.hid hm1
        have HM2 := Lib.hid hm2
        have HM3 := Lib.hid hm3
        have HM4 := Lib.hid hm4
        have HM5 := Lib.hid hm5
        have HM6 := Lib.hid hm6
        clear hcell hpt hpb hnxt hlc hci hzp hm1 hm2 hm3 hm4 hm5 hm6 hP
        go_wp2_with fail
        have hba : Below wr.heap.size wr (wr.alloc (.cells #[.string zp, .int .i64 m1, .int .i64 m2, .int .i64 m3, .slice au' m5 cu', .slice av' m6 cv', .bool m4] 57)) := below_alloc' (Below.refl _ _) _
        generalize World.alloc wr _ = wt0 at hba ⊢
        have hto := told_any base _ P wt0 ((HT.out.below HBR.out).below hba) (HPT.out.below hba) HPB.out.1 HPB.out.2.1 HPB.out.2.2.1 HPB.out.2.2.2
        rw [HZP.out, HM1.out, HM2.out, HM3.out, HM4.out, HM5.out, HM6.out] at hto
        refine hto.mono ?_
        rintro e wt ⟨rfl, hbt⟩
        clear hto
        have hb2t := below_call hba hbt
        have HIT := Lib.hid (block_below HIR.out hb2t)
        have HOT := Lib.hid (own_below HOW.out hb2t)
        have HBT := Lib.hid (below_call HBR.out hb2t)
        have HGT := Lib.hid (show w.heap.size + 1 ≤ wt.heap.size from by have h1 := hb2t.size; have h2 := HGW.out; have h3 := (Array.getElem?_eq_some_iff.1 HIR.out).1; omega)
        clear hba hbt hb2t c0 c1 c2 c3 c4 c5 c6
        go_wp2_with (at_builtin; (refine list_appends elt_strs _ _ rfl rfl rfl rfl (World.ownsRow.alloc HOT.out _) (show [Value.string (str (podT P))].length = 1 * 1 from rfl) (news_one' (alloc_at _ _)) (by simp [Value.oneCell']) (by omega) (by have := HGT.out; simp; omega) ?_); intro v9 wu hown hgrow; have HOU := Lib.hid hown; have HGU := Lib.hid hgrow; clear hown hgrow)
        go_roundw
        case rel =>
          refine ⟨i + 1, by go_num, by omega, ?_, (below_call HBT.out (below_alloc' (Below.refl _ _) _)).grown HGU.out (by have := HBT.out.size; simp; omega) (fun g hg => Nat.le_trans (Nat.le_succ _) (HLT.out g hg).1), grown_at HGU.out (block_below HIT.out (below_alloc' (Below.refl _ _) _)) (fun g hg e => HNR.out g hg e)⟩
          have ee : ([verb k, Lib.decDigits ni] ++ (s.pods.take i ++ [P]).map podT).map (fun l => Value.string (str l)) = ([verb k, Lib.decDigits ni] ++ (s.pods.take i).map podT).map (fun l => Value.string (str l)) ++ [.string (str (podT P))] := by simp
          rw [HNXT.out, ee]
          exact HOU.out
        case measure => simp [intOf]; omega
      · have hie : i = np := by omega
        have htk : s.pods.take i = s.pods := by rw [hie, ← HNP.out, List.take_length]
        have HIE := Lib.hid hie
        have HTKK := Lib.hid htk
        have hin' : ¬ (i : Int) < np := by omega
        have hnx3 : ∀ ty, (Instr.next (.pointer (some ⟨w4.heap.size, 0, none⟩)) true ty).run Tryz.prog wr = _ := fun ty => Lib.run_next_end_at wr w4.heap.size ⟨#[97, 112]⟩ 2 ty HIR.out (by decide)
        clear htk hie
        go_wp2_with fail
        rw [rounds_succ]
        obtain ⟨g, cap, rfl, hg, hgs⟩ := (own_forms HOW.out).resolve_left (by rintro ⟨_, h, _⟩; exact absurd h (by omega))
        have hwd : wordsE k s = [verb k, Lib.decDigits ni] ++ s.pods.map podT := by simp [wordsE, hkk, HNI.out]
        have hto : Lib.join ([verb k, Lib.decDigits ni] ++ s.pods.map podT) [32] = textE k s := by rw [← hwd]; rfl
        have HTO := Lib.hid hto
        obtain ⟨wl, hwl⟩ : ∃ l, [verb k, Lib.decDigits ni] ++ s.pods.map podT = l := ⟨_, rfl⟩
        have hlw : wl.length = 2 + i := by rw [← hwl, List.length_append, List.length_map, HNP.out, HIE.out]; rfl
        have how : wr.ownsRow (w.heap.size + 1) 9 1 (.slice (some ⟨g, 0, none⟩) wl.length cap) wl.length (wl.map fun l => .string (str l)) := by
          have := HOW.out
          rw [HTKK.out, hwl] at this
          rw [hlw]
          exact this
        rw [hwl] at hto
        rw [← hlw]
        have HOW2 := Lib.hid how
        have HTO2 := Lib.hid hto
        have HLW := Lib.hid hlw
        clear hwd hto how hlw hwl
        go_wp2_with fail
        refine (join_strs' wr g cap (w.heap.size + 1) wl HOW2.out (by have := HLW.out; omega) (by rw [HTO2.out]; exact HB.out.text)).mono ?_
        rw [HTO2.out]
        rintro e wz ⟨rfl, hbz⟩
        have HBZ := Lib.hid (below_call HBR.out hbz)
        clear hbz
        go_wp2
        go_ret
        exact ⟨by rw [hkk]; rfl, HBZ.out⟩
  · rw [hsh]
    have bk : ((k : Int) == 1) = false := beq_eq_false_iff_ne.2 (by omega)
    go_wp2_with fail
    refine wp_loop_rounds 4 ?_
    rw [rounds_succ]
    have hnx : ∀ ty, (Instr.next (.pointer (some ⟨w4.heap.size, 0, none⟩)) true ty).run Tryz.prog (w4.iter ⟨#[97, 110]⟩ 0) = .ok (.tuple #[.bool true, .int .i64 (0 : Nat), .int .i32 (97 : Nat)]) (w4.iter ⟨#[97, 110]⟩ 1) := fun ty => by
      rw [run_next_any w4 ⟨#[97, 110]⟩ 0 ty (by decide), show Utf8.decode ⟨#[97, 110]⟩ 0 = (97, 1) by decide +kernel]; rfl
    have hi5 : (w4.iter ⟨#[97, 110]⟩ 1).heap[w4.heap.size]? = some (.stringIter ⟨#[97, 110]⟩ 1) := World.iter_heap _ _ _
    have hb5 : Below w4.heap.size w4 (w4.iter ⟨#[97, 110]⟩ 1) := below_alloc' (Below.refl _ _) _
    have z5 := block_below HZ4.out hb5
    have r0 := cell_of_block z5 0 _ rfl
    have r1 := cell_of_block z5 1 _ rfl
    have rq := cell_of_block z5 1 _ rfl
    have HZ5 := Lib.hid z5
    have HI5 := Lib.hid hi5
    have HB5 := Lib.hid (below_call HB4.out hb5)
    have HO5 := Lib.hid (own_below HO4.out hb5)
    have HG5 := Lib.hid (show w4.heap.size < (w4.iter ⟨#[97, 110]⟩ 1).heap.size from (Array.getElem?_eq_some_iff.1 hi5).1)
    clear z5 hi5 hb5
    generalize w4.iter ⟨#[97, 110]⟩ 1 = w6 at *
    go_wp2_with fail
    refine (itoa_nat w6 (HT.out.below HB5.out) na (by have := (show na ≤ 999999 by rw [← HNA.out]; exact HB.out.a); omega)).mono ?_
    rintro e w7 ⟨rfl, hb7⟩
    have HI7 := Lib.hid (block_below HI5.out hb7)
    have HO7 := Lib.hid (own_below HO5.out hb7)
    have HZ7 := Lib.hid (block_below HZ5.out hb7)
    have HB7 := Lib.hid (below_call HB5.out hb7)
    have HG7 := Lib.hid (show w.heap.size + 1 ≤ w7.heap.size from by have := (Array.getElem?_eq_some_iff.1 HZ7.out).1; omega)
    have HX4 := Lib.hid (fun g hg => HO4.out.lt g hg : ∀ g, v'.ownBlock = some g → w.heap.size + 1 ≤ g ∧ g < w4.heap.size)
    clear hb7 hnx r0 r1 rq
    go_wp2_with (at_builtin; (refine list_appends elt_strs _ _ rfl rfl rfl rfl (World.ownsRow.alloc HO7.out _) (show [Value.string (str (Lib.decDigits na))].length = 1 * 1 from rfl) (news_one' (alloc_at _ _)) (by simp [Value.oneCell']) (by omega) (by have := HG7.out; simp; omega) ?_); intro v2 w8 hown hgrow; replace hgrow : World.grownBy _ _ (Value.ownBlock v') := hgrow; have HO8 := Lib.hid hown; have HGR8 := Lib.hid hgrow; clear hown hgrow)
    have hi8 := grown_at HGR8.out (block_below HI7.out (below_alloc' (Below.refl _ _) _)) (fun g hg e => by have := (HX4.out g hg).2; omega)
    have hz8 := grown_at HGR8.out (block_below HZ7.out (below_alloc' (Below.refl _ _) _)) (fun g hg e => by have := (HX4.out g hg).1; omega)
    have hb8 := (below_call HB7.out (below_alloc' (Below.refl w7.heap.size w7) (.cells #[.string (str (Lib.decDigits na))] 9))).grown HGR8.out (by have := HB7.out.size; simp; omega) (fun g hg => Nat.le_trans (Nat.le_succ _) (HX4.out g hg).1)
    have HB8 := Lib.hid hb8
    have HZ8 := Lib.hid hz8
    have hnx2 : ∀ ty, (Instr.next (.pointer (some ⟨w4.heap.size, 0, none⟩)) true ty).run Tryz.prog w8 = .ok (.tuple #[.bool true, .int .i64 (1 : Nat), .int .i32 (110 : Nat)]) (w8.iterAt w4.heap.size ⟨#[97, 110]⟩ 2) := fun ty => by
      rw [Lib.run_next_any_at w8 _ _ 1 ty hi8 (by decide), show Utf8.decode ⟨#[97, 110]⟩ 1 = (110, 1) by decide +kernel]; rfl
    have hK9 := Kc.iterAt hi8 2
    have hi9 := Lib.iterAt_heap w8 w4.heap.size ⟨#[97, 110]⟩ 1 2 hi8
    have hb9 := Lib.below_iterAt hb8 (show w.heap.size ≤ w4.heap.size from HB4.out.size) ⟨#[97, 110]⟩ 2
    have hz9 := hK9 _ _ _ hz8
    have ho9 := own_kc HO8.out hK9
    have HI9 := Lib.hid hi9
    have HB9 := Lib.hid hb9
    have HZ9 := Lib.hid hz9
    have HO9 := Lib.hid ho9
    have HG9 := Lib.hid (show w.heap.size + 1 ≤ (w8.iterAt w4.heap.size ⟨#[97, 110]⟩ 2).heap.size from (Array.getElem?_eq_some_iff.1 hz9).1)
    have HJ9 := Lib.hid (show w4.heap.size < w8.heap.size from (Array.getElem?_eq_some_iff.1 hi8).1)
    have HX9 := Lib.hid (fun g hg => HO8.out.lt g hg : ∀ g, v2.ownBlock = some g → w.heap.size + 1 ≤ g ∧ g < w8.heap.size)
    have hne8 : ∀ g, v2.ownBlock = some g → g ≠ w4.heap.size := fun g hg e => by
      obtain ⟨ds, hds⟩ := own_block HO8.out hg
      rw [e, hi8] at hds
      cases hds
    have HNE := Lib.hid hne8
    have p0 := cell_of_block hz9 0 _ rfl
    have p5 := cell_of_block hz9 5 _ rfl
    have p6 := cell_of_block hz9 6 _ rfl
    have p7 := cell_of_block hz9 7 _ rfl
    have p8 := cell_of_block hz9 8 _ rfl
    have p9 := cell_of_block hz9 9 _ rfl
    have p10 := cell_of_block hz9 10 _ rfl
    clear hne8 hb8 hz8 hi8 hi9 hb9 hz9 ho9 hK9
    rw [rounds_succ]
    go_wp2_with fail
    clear hnx2
    generalize w8.iterAt w4.heap.size ⟨#[97, 110]⟩ 2 = w9 at *
    have hru : Rows w9 (.slice au lu cu) s.node.marks := (Strs.rows HU.out HB.out.node.2.2.2.1).below HB9.out
    have hrx : Rows w9 (.slice ax lx cx) s.node.taints := (Strs.rows HX.out HB.out.node.2.2.2.2).below HB9.out
    have hlt := ltext_node s.node _ _ w9 (HT.out.below HB9.out) hru hrx HB.out.node.1 HB.out.node.2.1 HB.out.node.2.2.1
    rw [HZN.out, HN2.out, HN3.out, HFL.out] at hlt
    clear hru hrx
    refine hlt.mono ?_
    rintro e wa ⟨rfl, hba⟩
    clear hlt
    have HIA := Lib.hid (block_below HI9.out hba)
    have HOA := Lib.hid (own_below HO9.out hba)
    have HBA := Lib.hid (below_call HB9.out hba)
    have HGA := Lib.hid (show w.heap.size + 1 ≤ wa.heap.size from Nat.le_trans HG9.out hba.size)
    clear hba p0 p5 p6 p7 p8 p9 p10
    go_wp2_with fail
    refine (trim_node (nodeT s.node) wa).mono ?_
    rintro e w10 ⟨rfl, rfl⟩
    go_wp2_with (at_builtin; (refine list_appends elt_strs _ _ rfl rfl rfl rfl (World.ownsRow.alloc HOA.out _) (show [Value.string (str (nodeT s.node))].length = 1 * 1 from rfl) (news_one' (alloc_at _ _)) (by simp [Value.oneCell']) (by omega) (by have := HGA.out; simp; omega) ?_); intro v3 w11 hown hgrow; replace hgrow : World.grownBy _ _ (Value.ownBlock v2) := hgrow; have HO11 := Lib.hid hown; have HGR11 := Lib.hid hgrow; clear hown hgrow)
    have hi11 := grown_at HGR11.out (block_below HIA.out (below_alloc' (Below.refl _ _) _)) (fun g hg e => HNE.out g hg e)
    have hb11 := (below_call HBA.out (below_alloc' (Below.refl wa.heap.size wa) (.cells #[.string (str (nodeT s.node))] 9))).grown HGR11.out (by have := HBA.out.size; simp; omega) (fun g hg => Nat.le_trans (Nat.le_succ _) (HX9.out g hg).1)
    have HB11 := Lib.hid hb11
    clear hb11
    have hnx3 : ∀ ty, (Instr.next (.pointer (some ⟨w4.heap.size, 0, none⟩)) true ty).run Tryz.prog w11 = _ := fun ty => Lib.run_next_end_at w11 w4.heap.size ⟨#[97, 110]⟩ 2 ty hi11 (by decide)
    go_wp2_with fail
    rw [rounds_succ]
    obtain ⟨g, cap, rfl, hg, hgs⟩ := (own_forms HO11.out).resolve_left (by rintro ⟨_, h, _⟩; exact absurd h (by omega))
    have hwd : wordsE k s = [verb k, Lib.decDigits na, nodeT s.node] := by simp [wordsE, hkk, HNA.out]
    have hto : Lib.join ([verb k, Lib.decDigits na, nodeT s.node]) [32] = textE k s := by rw [← hwd]; rfl
    have HTO := Lib.hid hto
    have HWD := Lib.hid hwd
    have how : w11.ownsRow (w.heap.size + 1) 9 1 (.slice (some ⟨g, 0, none⟩) ([verb k, Lib.decDigits na, nodeT s.node]).length cap) ([verb k, Lib.decDigits na, nodeT s.node]).length (([verb k, Lib.decDigits na, nodeT s.node]).map fun l => .string (str l)) := by
      have := HO11.out
      rw [← HZV.out] at this
      exact this
    have HOW := Lib.hid how
    clear hto hwd how
    go_wp2_with fail
    refine (join_strs' w11 g cap (w.heap.size + 1) ([verb k, Lib.decDigits na, nodeT s.node]) HOW.out (by simp) (by rw [HTO.out]; exact HB.out.text)).mono ?_
    rw [HTO.out]
    rintro e wz ⟨rfl, hbz⟩
    have HBZ := Lib.hid (below_call HB11.out hbz)
    clear hbz
    go_wp2
    go_ret
    exact ⟨by rw [hkk]; rfl, HBZ.out⟩
  · rw [hsh]
    have bk : ((k : Int) == 1) = false := beq_eq_false_iff_ne.2 (by omega)
    go_wp2_with fail
    refine wp_loop_rounds 4 ?_
    rw [rounds_succ]
    have hnx : ∀ ty, (Instr.next (.pointer (some ⟨w4.heap.size, 0, none⟩)) true ty).run Tryz.prog (w4.iter ⟨#[97, 109]⟩ 0) = .ok (.tuple #[.bool true, .int .i64 (0 : Nat), .int .i32 (97 : Nat)]) (w4.iter ⟨#[97, 109]⟩ 1) := fun ty => by
      rw [run_next_any w4 ⟨#[97, 109]⟩ 0 ty (by decide), show Utf8.decode ⟨#[97, 109]⟩ 0 = (97, 1) by decide +kernel]; rfl
    have hi5 : (w4.iter ⟨#[97, 109]⟩ 1).heap[w4.heap.size]? = some (.stringIter ⟨#[97, 109]⟩ 1) := World.iter_heap _ _ _
    have hb5 : Below w4.heap.size w4 (w4.iter ⟨#[97, 109]⟩ 1) := below_alloc' (Below.refl _ _) _
    have z5 := block_below HZ4.out hb5
    have r0 := cell_of_block z5 0 _ rfl
    have r1 := cell_of_block z5 1 _ rfl
    have rq := cell_of_block z5 1 _ rfl
    have HZ5 := Lib.hid z5
    have HI5 := Lib.hid hi5
    have HB5 := Lib.hid (below_call HB4.out hb5)
    have HO5 := Lib.hid (own_below HO4.out hb5)
    have HG5 := Lib.hid (show w4.heap.size < (w4.iter ⟨#[97, 109]⟩ 1).heap.size from (Array.getElem?_eq_some_iff.1 hi5).1)
    clear z5 hi5 hb5
    generalize w4.iter ⟨#[97, 109]⟩ 1 = w6 at *
    go_wp2_with fail
    refine (itoa_nat w6 (HT.out.below HB5.out) na (by have := (show na ≤ 999999 by rw [← HNA.out]; exact HB.out.a); omega)).mono ?_
    rintro e w7 ⟨rfl, hb7⟩
    have HI7 := Lib.hid (block_below HI5.out hb7)
    have HO7 := Lib.hid (own_below HO5.out hb7)
    have HZ7 := Lib.hid (block_below HZ5.out hb7)
    have HB7 := Lib.hid (below_call HB5.out hb7)
    have HG7 := Lib.hid (show w.heap.size + 1 ≤ w7.heap.size from by have := (Array.getElem?_eq_some_iff.1 HZ7.out).1; omega)
    have HX4 := Lib.hid (fun g hg => HO4.out.lt g hg : ∀ g, v'.ownBlock = some g → w.heap.size + 1 ≤ g ∧ g < w4.heap.size)
    clear hb7 hnx r0 r1 rq
    go_wp2_with (at_builtin; (refine list_appends elt_strs _ _ rfl rfl rfl rfl (World.ownsRow.alloc HO7.out _) (show [Value.string (str (Lib.decDigits na))].length = 1 * 1 from rfl) (news_one' (alloc_at _ _)) (by simp [Value.oneCell']) (by omega) (by have := HG7.out; simp; omega) ?_); intro v2 w8 hown hgrow; replace hgrow : World.grownBy _ _ (Value.ownBlock v') := hgrow; have HO8 := Lib.hid hown; have HGR8 := Lib.hid hgrow; clear hown hgrow)
    have hi8 := grown_at HGR8.out (block_below HI7.out (below_alloc' (Below.refl _ _) _)) (fun g hg e => by have := (HX4.out g hg).2; omega)
    have hz8 := grown_at HGR8.out (block_below HZ7.out (below_alloc' (Below.refl _ _) _)) (fun g hg e => by have := (HX4.out g hg).1; omega)
    have hb8 := (below_call HB7.out (below_alloc' (Below.refl w7.heap.size w7) (.cells #[.string (str (Lib.decDigits na))] 9))).grown HGR8.out (by have := HB7.out.size; simp; omega) (fun g hg => Nat.le_trans (Nat.le_succ _) (HX4.out g hg).1)
    have HB8 := Lib.hid hb8
    have HZ8 := Lib.hid hz8
    have hnx2 : ∀ ty, (Instr.next (.pointer (some ⟨w4.heap.size, 0, none⟩)) true ty).run Tryz.prog w8 = .ok (.tuple #[.bool true, .int .i64 (1 : Nat), .int .i32 (109 : Nat)]) (w8.iterAt w4.heap.size ⟨#[97, 109]⟩ 2) := fun ty => by
      rw [Lib.run_next_any_at w8 _ _ 1 ty hi8 (by decide), show Utf8.decode ⟨#[97, 109]⟩ 1 = (109, 1) by decide +kernel]; rfl
    have hK9 := Kc.iterAt hi8 2
    have hi9 := Lib.iterAt_heap w8 w4.heap.size ⟨#[97, 109]⟩ 1 2 hi8
    have hb9 := Lib.below_iterAt hb8 (show w.heap.size ≤ w4.heap.size from HB4.out.size) ⟨#[97, 109]⟩ 2
    have hz9 := hK9 _ _ _ hz8
    have ho9 := own_kc HO8.out hK9
    have HI9 := Lib.hid hi9
    have HB9 := Lib.hid hb9
    have HZ9 := Lib.hid hz9
    have HO9 := Lib.hid ho9
    have HG9 := Lib.hid (show w.heap.size + 1 ≤ (w8.iterAt w4.heap.size ⟨#[97, 109]⟩ 2).heap.size from (Array.getElem?_eq_some_iff.1 hz9).1)
    have HJ9 := Lib.hid (show w4.heap.size < w8.heap.size from (Array.getElem?_eq_some_iff.1 hi8).1)
    have HX9 := Lib.hid (fun g hg => HO8.out.lt g hg : ∀ g, v2.ownBlock = some g → w.heap.size + 1 ≤ g ∧ g < w8.heap.size)
    have hne8 : ∀ g, v2.ownBlock = some g → g ≠ w4.heap.size := fun g hg e => by
      obtain ⟨ds, hds⟩ := own_block HO8.out hg
      rw [e, hi8] at hds
      cases hds
    have HNE := Lib.hid hne8
    have p0 := cell_of_block hz9 0 _ rfl
    have p5 := cell_of_block hz9 5 _ rfl
    clear hne8 hb8 hz8 hi8 hi9 hb9 hz9 ho9 hK9
    rw [rounds_succ]
    go_wp2_with (at_builtin; (refine list_appends elt_strs _ _ rfl rfl rfl rfl (World.ownsRow.alloc HO9.out _) (show [Value.string zn].length = 1 * 1 from rfl) (news_one' (alloc_at _ _)) (by simp [Value.oneCell']) (by omega) (by have := HG9.out; simp; omega) ?_); intro v3 w11 hown hgrow; replace hgrow : World.grownBy _ _ (Value.ownBlock v2) := hgrow; have HO11 := Lib.hid hown; have HGR11 := Lib.hid hgrow; clear hown hgrow)
    have hi11 := grown_at HGR11.out (block_below HI9.out (below_alloc' (Below.refl _ _) _)) (fun g hg e => HNE.out g hg e)
    have hb11 := (below_call HB9.out (below_alloc' (Below.refl (w8.iterAt w4.heap.size ⟨#[97, 109]⟩ 2).heap.size (w8.iterAt w4.heap.size ⟨#[97, 109]⟩ 2)) (.cells #[.string zn] 9))).grown HGR11.out (by have := HB9.out.size; simp; omega) (fun g hg => Nat.le_trans (Nat.le_succ _) (HX9.out g hg).1)
    have HB11 := Lib.hid hb11
    clear hb11
    have hnx3 : ∀ ty, (Instr.next (.pointer (some ⟨w4.heap.size, 0, none⟩)) true ty).run Tryz.prog w11 = _ := fun ty => Lib.run_next_end_at w11 w4.heap.size ⟨#[97, 109]⟩ 2 ty hi11 (by decide)
    go_wp2_with fail
    rw [rounds_succ]
    obtain ⟨g, cap, rfl, hg, hgs⟩ := (own_forms HO11.out).resolve_left (by rintro ⟨_, h, _⟩; exact absurd h (by omega))
    have hwd : wordsE k s = [verb k, Lib.decDigits na, s.node.name] := by simp [wordsE, hkk, HNA.out]
    have hto : Lib.join ([verb k, Lib.decDigits na, s.node.name]) [32] = textE k s := by rw [← hwd]; rfl
    have HTO := Lib.hid hto
    have HWD := Lib.hid hwd
    have how : w11.ownsRow (w.heap.size + 1) 9 1 (.slice (some ⟨g, 0, none⟩) ([verb k, Lib.decDigits na, s.node.name]).length cap) ([verb k, Lib.decDigits na, s.node.name]).length (([verb k, Lib.decDigits na, s.node.name]).map fun l => .string (str l)) := by
      have := HO11.out
      rw [← HZV.out, ← HZN.out] at this
      exact this
    have HOW := Lib.hid how
    clear hto hwd how
    go_wp2_with fail
    refine (join_strs' w11 g cap (w.heap.size + 1) ([verb k, Lib.decDigits na, s.node.name]) HOW.out (by simp) (by rw [HTO.out]; exact HB.out.text)).mono ?_
    rw [HTO.out]
    rintro e wz ⟨rfl, hbz⟩
    have HBZ := Lib.hid (below_call HB11.out hbz)
    clear hbz
    go_wp2
    go_ret
    exact ⟨by rw [hkk]; rfl, HBZ.out⟩
  · rw [hsh]
    have bk : ((k : Int) == 1) = false := beq_eq_false_iff_ne.2 (by omega)
    go_wp2_with fail
    refine wp_loop_rounds 4 ?_
    rw [rounds_succ]
    have hnx : ∀ ty, (Instr.next (.pointer (some ⟨w4.heap.size, 0, none⟩)) true ty).run Tryz.prog (w4.iter ⟨#[97, 98]⟩ 0) = .ok (.tuple #[.bool true, .int .i64 (0 : Nat), .int .i32 (97 : Nat)]) (w4.iter ⟨#[97, 98]⟩ 1) := fun ty => by
      rw [run_next_any w4 ⟨#[97, 98]⟩ 0 ty (by decide), show Utf8.decode ⟨#[97, 98]⟩ 0 = (97, 1) by decide +kernel]; rfl
    have hi5 : (w4.iter ⟨#[97, 98]⟩ 1).heap[w4.heap.size]? = some (.stringIter ⟨#[97, 98]⟩ 1) := World.iter_heap _ _ _
    have hb5 : Below w4.heap.size w4 (w4.iter ⟨#[97, 98]⟩ 1) := below_alloc' (Below.refl _ _) _
    have z5 := block_below HZ4.out hb5
    have r0 := cell_of_block z5 0 _ rfl
    have r1 := cell_of_block z5 1 _ rfl
    have rq := cell_of_block z5 1 _ rfl
    have HZ5 := Lib.hid z5
    have HI5 := Lib.hid hi5
    have HB5 := Lib.hid (below_call HB4.out hb5)
    have HO5 := Lib.hid (own_below HO4.out hb5)
    have HG5 := Lib.hid (show w4.heap.size < (w4.iter ⟨#[97, 98]⟩ 1).heap.size from (Array.getElem?_eq_some_iff.1 hi5).1)
    clear z5 hi5 hb5
    generalize w4.iter ⟨#[97, 98]⟩ 1 = w6 at *
    go_wp2_with fail
    refine (itoa_nat w6 (HT.out.below HB5.out) na (by have := (show na ≤ 999999 by rw [← HNA.out]; exact HB.out.a); omega)).mono ?_
    rintro e w7 ⟨rfl, hb7⟩
    have HI7 := Lib.hid (block_below HI5.out hb7)
    have HO7 := Lib.hid (own_below HO5.out hb7)
    have HZ7 := Lib.hid (block_below HZ5.out hb7)
    have HB7 := Lib.hid (below_call HB5.out hb7)
    have HG7 := Lib.hid (show w.heap.size + 1 ≤ w7.heap.size from by have := (Array.getElem?_eq_some_iff.1 HZ7.out).1; omega)
    have HX4 := Lib.hid (fun g hg => HO4.out.lt g hg : ∀ g, v'.ownBlock = some g → w.heap.size + 1 ≤ g ∧ g < w4.heap.size)
    clear hb7 hnx r0 r1 rq
    go_wp2_with (at_builtin; (refine list_appends elt_strs _ _ rfl rfl rfl rfl (World.ownsRow.alloc HO7.out _) (show [Value.string (str (Lib.decDigits na))].length = 1 * 1 from rfl) (news_one' (alloc_at _ _)) (by simp [Value.oneCell']) (by omega) (by have := HG7.out; simp; omega) ?_); intro v2 w8 hown hgrow; replace hgrow : World.grownBy _ _ (Value.ownBlock v') := hgrow; have HO8 := Lib.hid hown; have HGR8 := Lib.hid hgrow; clear hown hgrow)
    have hi8 := grown_at HGR8.out (block_below HI7.out (below_alloc' (Below.refl _ _) _)) (fun g hg e => by have := (HX4.out g hg).2; omega)
    have hz8 := grown_at HGR8.out (block_below HZ7.out (below_alloc' (Below.refl _ _) _)) (fun g hg e => by have := (HX4.out g hg).1; omega)
    have hb8 := (below_call HB7.out (below_alloc' (Below.refl w7.heap.size w7) (.cells #[.string (str (Lib.decDigits na))] 9))).grown HGR8.out (by have := HB7.out.size; simp; omega) (fun g hg => Nat.le_trans (Nat.le_succ _) (HX4.out g hg).1)
    have HB8 := Lib.hid hb8
    have HZ8 := Lib.hid hz8
    have hnx2 : ∀ ty, (Instr.next (.pointer (some ⟨w4.heap.size, 0, none⟩)) true ty).run Tryz.prog w8 = .ok (.tuple #[.bool true, .int .i64 (1 : Nat), .int .i32 (98 : Nat)]) (w8.iterAt w4.heap.size ⟨#[97, 98]⟩ 2) := fun ty => by
      rw [Lib.run_next_any_at w8 _ _ 1 ty hi8 (by decide), show Utf8.decode ⟨#[97, 98]⟩ 1 = (98, 1) by decide +kernel]; rfl
    have hK9 := Kc.iterAt hi8 2
    have hi9 := Lib.iterAt_heap w8 w4.heap.size ⟨#[97, 98]⟩ 1 2 hi8
    have hb9 := Lib.below_iterAt hb8 (show w.heap.size ≤ w4.heap.size from HB4.out.size) ⟨#[97, 98]⟩ 2
    have hz9 := hK9 _ _ _ hz8
    have ho9 := own_kc HO8.out hK9
    have HI9 := Lib.hid hi9
    have HB9 := Lib.hid hb9
    have HZ9 := Lib.hid hz9
    have HO9 := Lib.hid ho9
    have HG9 := Lib.hid (show w.heap.size + 1 ≤ (w8.iterAt w4.heap.size ⟨#[97, 98]⟩ 2).heap.size from (Array.getElem?_eq_some_iff.1 hz9).1)
    have HJ9 := Lib.hid (show w4.heap.size < w8.heap.size from (Array.getElem?_eq_some_iff.1 hi8).1)
    have HX9 := Lib.hid (fun g hg => HO8.out.lt g hg : ∀ g, v2.ownBlock = some g → w.heap.size + 1 ≤ g ∧ g < w8.heap.size)
    have hne8 : ∀ g, v2.ownBlock = some g → g ≠ w4.heap.size := fun g hg e => by
      obtain ⟨ds, hds⟩ := own_block HO8.out hg
      rw [e, hi8] at hds
      cases hds
    have HNE := Lib.hid hne8
    have p0 := cell_of_block hz9 0 _ rfl
    have p2 := cell_of_block hz9 2 _ rfl
    clear hne8 hb8 hz8 hi8 hi9 hb9 hz9 ho9 hK9
    rw [rounds_succ]
    go_wp2_with fail
    clear hnx2
    generalize w8.iterAt w4.heap.size ⟨#[97, 98]⟩ 2 = w9 at *
    refine (itoa_nat w9 (HT.out.below HB9.out) nb (by have := (show nb ≤ 999999 by rw [← HNB.out]; exact HB.out.b); omega)).mono ?_
    rintro e w10 ⟨rfl, hb10⟩
    have HI10 := Lib.hid (block_below HI9.out hb10)
    have HO10 := Lib.hid (own_below HO9.out hb10)
    have HB10 := Lib.hid (below_call HB9.out hb10)
    have HG10 := Lib.hid (show w.heap.size + 1 ≤ w10.heap.size from Nat.le_trans HG9.out hb10.size)
    clear hb10
    go_wp2_with (at_builtin; (refine list_appends elt_strs _ _ rfl rfl rfl rfl (World.ownsRow.alloc HO10.out _) (show [Value.string (str (Lib.decDigits nb))].length = 1 * 1 from rfl) (news_one' (alloc_at _ _)) (by simp [Value.oneCell']) (by omega) (by have := HG10.out; simp; omega) ?_); intro v3 w11 hown hgrow; replace hgrow : World.grownBy _ _ (Value.ownBlock v2) := hgrow; have HO11 := Lib.hid hown; have HGR11 := Lib.hid hgrow; clear hown hgrow)
    have hi11 := grown_at HGR11.out (block_below HI10.out (below_alloc' (Below.refl _ _) _)) (fun g hg e => HNE.out g hg e)
    have hb11 := (below_call HB10.out (below_alloc' (Below.refl w10.heap.size w10) (.cells #[.string (str (Lib.decDigits nb))] 9))).grown HGR11.out (by have := HB10.out.size; simp; omega) (fun g hg => Nat.le_trans (Nat.le_succ _) (HX9.out g hg).1)
    have HB11 := Lib.hid hb11
    clear hb11
    have hnx3 : ∀ ty, (Instr.next (.pointer (some ⟨w4.heap.size, 0, none⟩)) true ty).run Tryz.prog w11 = _ := fun ty => Lib.run_next_end_at w11 w4.heap.size ⟨#[97, 98]⟩ 2 ty hi11 (by decide)
    go_wp2_with fail
    rw [rounds_succ]
    obtain ⟨g, cap, rfl, hg, hgs⟩ := (own_forms HO11.out).resolve_left (by rintro ⟨_, h, _⟩; exact absurd h (by omega))
    have hwd : wordsE k s = [verb k, Lib.decDigits na, Lib.decDigits nb] := by simp [wordsE, hkk, HNA.out, HNB.out]
    have hto : Lib.join ([verb k, Lib.decDigits na, Lib.decDigits nb]) [32] = textE k s := by rw [← hwd]; rfl
    have HTO := Lib.hid hto
    have HWD := Lib.hid hwd
    have how : w11.ownsRow (w.heap.size + 1) 9 1 (.slice (some ⟨g, 0, none⟩) ([verb k, Lib.decDigits na, Lib.decDigits nb]).length cap) ([verb k, Lib.decDigits na, Lib.decDigits nb]).length (([verb k, Lib.decDigits na, Lib.decDigits nb]).map fun l => .string (str l)) := by
      have := HO11.out
      rw [← HZV.out] at this
      exact this
    have HOW := Lib.hid how
    clear hto hwd how
    go_wp2_with fail
    refine (join_strs' w11 g cap (w.heap.size + 1) ([verb k, Lib.decDigits na, Lib.decDigits nb]) HOW.out (by simp) (by rw [HTO.out]; exact HB.out.text)).mono ?_
    rw [HTO.out]
    rintro e wz ⟨rfl, hbz⟩
    have HBZ := Lib.hid (below_call HB11.out hbz)
    clear hbz
    go_wp2
    go_ret
    exact ⟨by rw [hkk]; rfl, HBZ.out⟩
  · rw [hsh]
    have bk : ((k : Int) == 1) = false := beq_eq_false_iff_ne.2 (by omega)
    go_wp2_with fail
    refine wp_loop_rounds 3 ?_
    rw [rounds_succ]
    have hnx : ∀ ty, (Instr.next (.pointer (some ⟨w4.heap.size, 0, none⟩)) true ty).run Tryz.prog (w4.iter ⟨#[97]⟩ 0) = .ok (.tuple #[.bool true, .int .i64 (0 : Nat), .int .i32 (97 : Nat)]) (w4.iter ⟨#[97]⟩ 1) := fun ty => by
      rw [run_next_any w4 ⟨#[97]⟩ 0 ty (by decide), show Utf8.decode ⟨#[97]⟩ 0 = (97, 1) by decide +kernel]; rfl
    have hi5 : (w4.iter ⟨#[97]⟩ 1).heap[w4.heap.size]? = some (.stringIter ⟨#[97]⟩ 1) := World.iter_heap _ _ _
    have hb5 : Below w4.heap.size w4 (w4.iter ⟨#[97]⟩ 1) := below_alloc' (Below.refl _ _) _
    have z5 := block_below HZ4.out hb5
    have r0 := cell_of_block z5 0 _ rfl
    have r1 := cell_of_block z5 1 _ rfl
    have rq := cell_of_block z5 1 _ rfl
    have HZ5 := Lib.hid z5
    have HI5 := Lib.hid hi5
    have HB5 := Lib.hid (below_call HB4.out hb5)
    have HO5 := Lib.hid (own_below HO4.out hb5)
    have HG5 := Lib.hid (show w4.heap.size < (w4.iter ⟨#[97]⟩ 1).heap.size from (Array.getElem?_eq_some_iff.1 hi5).1)
    clear z5 hi5 hb5
    generalize w4.iter ⟨#[97]⟩ 1 = w6 at *
    go_wp2_with fail
    refine (itoa_nat w6 (HT.out.below HB5.out) na (by have := (show na ≤ 999999 by rw [← HNA.out]; exact HB.out.a); omega)).mono ?_
    rintro e w7 ⟨rfl, hb7⟩
    have HI7 := Lib.hid (block_below HI5.out hb7)
    have HO7 := Lib.hid (own_below HO5.out hb7)
    have HZ7 := Lib.hid (block_below HZ5.out hb7)
    have HB7 := Lib.hid (below_call HB5.out hb7)
    have HG7 := Lib.hid (show w.heap.size + 1 ≤ w7.heap.size from by have := (Array.getElem?_eq_some_iff.1 HZ7.out).1; omega)
    have HX4 := Lib.hid (fun g hg => HO4.out.lt g hg : ∀ g, v'.ownBlock = some g → w.heap.size + 1 ≤ g ∧ g < w4.heap.size)
    clear hb7 hnx r0 r1 rq
    go_wp2_with (at_builtin; (refine list_appends elt_strs _ _ rfl rfl rfl rfl (World.ownsRow.alloc HO7.out _) (show [Value.string (str (Lib.decDigits na))].length = 1 * 1 from rfl) (news_one' (alloc_at _ _)) (by simp [Value.oneCell']) (by omega) (by have := HG7.out; simp; omega) ?_); intro v2 w8 hown hgrow; replace hgrow : World.grownBy _ _ (Value.ownBlock v') := hgrow; have HO8 := Lib.hid hown; have HGR8 := Lib.hid hgrow; clear hown hgrow)
    have hi8 := grown_at HGR8.out (block_below HI7.out (below_alloc' (Below.refl _ _) _)) (fun g hg e => by have := (HX4.out g hg).2; omega)
    have hz8 := grown_at HGR8.out (block_below HZ7.out (below_alloc' (Below.refl _ _) _)) (fun g hg e => by have := (HX4.out g hg).1; omega)
    have hb8 := (below_call HB7.out (below_alloc' (Below.refl w7.heap.size w7) (.cells #[.string (str (Lib.decDigits na))] 9))).grown HGR8.out (by have := HB7.out.size; simp; omega) (fun g hg => Nat.le_trans (Nat.le_succ _) (HX4.out g hg).1)
    have HB8 := Lib.hid hb8
    have HZ8 := Lib.hid hz8
    have hnx3 : ∀ ty, (Instr.next (.pointer (some ⟨w4.heap.size, 0, none⟩)) true ty).run Tryz.prog w8 = _ := fun ty => Lib.run_next_end_at w8 w4.heap.size ⟨#[97]⟩ 1 ty hi8 (by decide)
    go_wp2_with fail
    rw [rounds_succ]
    obtain ⟨g, cap, rfl, hg, hgs⟩ := (own_forms HO8.out).resolve_left (by rintro ⟨_, h, _⟩; exact absurd h (by omega))
    have hwd : wordsE k s = [verb k, Lib.decDigits na] := by simp [wordsE, hkk.1, hkk.2.1, hkk.2.2.1, hkk.2.2.2, HNA.out]
    have hto : Lib.join ([verb k, Lib.decDigits na]) [32] = textE k s := by rw [← hwd]; rfl
    have HTO := Lib.hid hto
    have HWD := Lib.hid hwd
    have how : w8.ownsRow (w.heap.size + 1) 9 1 (.slice (some ⟨g, 0, none⟩) ([verb k, Lib.decDigits na]).length cap) ([verb k, Lib.decDigits na]).length (([verb k, Lib.decDigits na]).map fun l => .string (str l)) := by
      have := HO8.out
      rw [← HZV.out] at this
      exact this
    have HOW := Lib.hid how
    clear hto hwd how
    go_wp2_with fail
    refine (join_strs' w8 g cap (w.heap.size + 1) ([verb k, Lib.decDigits na]) HOW.out (by simp) (by rw [HTO.out]; exact HB.out.text)).mono ?_
    rw [HTO.out]
    rintro e wz ⟨rfl, hbz⟩
    have HBZ := Lib.hid (below_call HB8.out hbz)
    clear hbz
    go_wp2
    go_ret
    exact ⟨rfl, HBZ.out⟩
end Go.Proofs.YtoekofanmgdbmaaGreatDoor
