/- Room taken for a gang, by the program. -/
import Derived.Test.YtofofjfmhaggmaaGreatDoorVk
set_option linter.unusedVariables false
set_option linter.unusedSimpArgs false
namespace Go.Proofs.YtofofjfmhaggmaaGreatDoor
open Go.RowKit

theorem fits_ix (a b c d : Nat) (A B : Int) (hA : A = (a : Nat)) (hB : B = (b : Nat)) (f : Bool) (hf : (decide (a ≤ c) && decide (b ≤ d)) = f) (w : World) : Calls Tryz.prog 80 #[.agg #[.int .i64 A, .int .i64 B], .agg #[.int .i64 c, .int .i64 d]] w fun e w' => e = .returned (.bool f) ∧ Below w.heap.size w w' := by
  rw [hA, hB]; exact fits_is a b c d f hf w
/-- The first loop: each place's node is there. -/
def TakeH (w : World) (L : LedL) (p : List PlaceL) (j : Nat) (wr : World) : Prop := Below w.heap.size w wr ∧ ∀ k (hk : k < p.length), k < j → hasN L.nodes p[k].node = true
/-- The second one: the sums fit so far. -/
def TakeR (w : World) (L : LedL) (p : List PlaceL) (B j : Nat) (wr : World) : Prop := Below w.heap.size w wr ∧ SumsAt L p j B wr ∧ L.roomTo p j = true
set_option maxRecDepth 100000 in
set_option maxHeartbeats 4000000 in
theorem ltake_any (Q : Nat → Prop) (w : World) (l a b : Nat) (L : LedL) (h : LedAt Q w l a b L) (hok : L.ok) (hk : L.taken.length ≤ 1073741824) (hQ : ∀ g, Q g → g < w.heap.size) (g : Int) (v : Value) (p : List PlaceL) (hv : PlacesQ Q w v p) (hf : fewP p) :
    Calls Tryz.prog 78 #[.pointer (some ⟨l, 0, none⟩), .int .i64 g, v] w fun e w' => e = .returned (.int .i64 (L.errTake g p)) ∧ LedAt Q w' l a b (L.take g p) ∧ Mod (fun k => k = b) w w' := by
  have H := Lib.hid h
  have HQ := Lib.hid hQ
  have HOK := Lib.hid hok
  have HFW := Lib.hid hf
  have HPV := Lib.hid hv
  have h8 : p.length ≤ 8 := hf.1
  obtain ⟨pa, pc, rfl, hcs⟩ := flat_cells hv
  have HCS := Lib.hid hcs
  obtain ⟨vt, hlt, hvt⟩ := h.look_taken g
  obtain ⟨s, c, rfl⟩ := placesQ_slice hvt
  have c1 := cell_of_block h.box 1 _ rfl
  clear hv hf hok hQ h hvt hcs
  by_cases hg : L.get g = []
  case neg =>
    have HE := Lib.hid (show L.errTake g p = 4 ∧ L.take g p = L from ⟨LedL.errTake_twice hg, LedL.take_not (by rw [LedL.errTake_twice hg]; decide)⟩)
    have hz : (0 : Int) < ((L.get g).length : Int) := by
      have := List.length_pos_iff.2 hg
      omega
    have hz' : ¬ ((L.get g).length : Int) ≤ 0 := by omega
    clear hg
    go_enter Tryz.func78, Tryz.ntmps78
    go_wp2
    go_ret
    exact ⟨ret_int HE.out.1.symm, by rw [HE.out.2]; exact H.out, Mod.refl _ _⟩
  have HG := Lib.hid hg
  rw [hg] at hlt
  clear hg
  by_cases hp0 : p = []
  · subst hp0
    have HE := Lib.hid (show L.errTake g [] = 3 ∧ L.take g [] = L from ⟨LedL.errTake_long HG.out, LedL.take_not (by rw [LedL.errTake_long HG.out]; decide)⟩)
    go_enter Tryz.func78, Tryz.ntmps78
    go_wp2
    go_ret
    exact ⟨ret_int HE.out.1.symm, by rw [HE.out.2]; exact H.out, Mod.refl _ _⟩
  have hpl : 0 < p.length := List.length_pos_iff.2 hp0
  have hpl1 : ((p.length : Int) == 0) = false := beq_eq_false_iff_ne.2 (by omega)
  have hpl2 : (p.length == 0) = false := beq_eq_false_iff_ne.2 (by omega)
  have HP0 := Lib.hid hp0
  clear hp0
  go_enter Tryz.func78, Tryz.ntmps78
  go_wp2_with fail
  go_loopw [32] (fun i wr => ∃ j : Nat, i = .int .i64 j ∧ j ≤ p.length ∧ TakeH w L p j wr) (fun i _ => p.length - (intOf i).toNat)
  case atStart => exact ⟨0, rfl, Nat.zero_le _, Below.refl _ _, fun k hk h => absurd h (Nat.not_lt_zero _)⟩
  case round =>
    obtain ⟨j, rfl, hj, hT⟩ := hrel
    have HT := Lib.hid hT
    clear hT
    by_cases hjl : j < p.length
    · have HJ := Lib.hid hjl
      obtain ⟨bb, rfl, hbb, hpc, p0, p1, p2, p3, p4⟩ := HCS.out j hjl
      have q0 := cell_below p0 HT.out.1
      have q1 := cell_below p1 HT.out.1
      have q2 := cell_below p2 HT.out.1
      have q3 := cell_below p3 HT.out.1
      have q4 := cell_below p4 HT.out.1
      have hj0 : (0 : Int) ≤ (j : Int) := by omega
      have hj1 : (j : Int) < (p.length : Int) := by omega
      have hnone := fun h => LedL.errTake_none (L := L) (g := g) (p := p) HG.out hjl h
      have hnext := fun (h : hasN L.nodes p[j].node = true) => (show ∀ wx, Below w.heap.size w wx → TakeH w L p (j + 1) wx from fun wx hb => ⟨hb, fun k hk hkj => by
        by_cases e : k = j
        · subst e; exact h
        · exact HT.out.2 k hk (by omega)⟩)
      generalize p[j] = x at q0 q1 q2 q3 q4 hnone hnext
      have HN := Lib.hid (And.intro hnone hnext)
      clear p0 p1 p2 p3 p4 hnone hnext
      go_wp2_with fail
      have hbx : Below w.heap.size w (wr.alloc (.cells #[.string (str x.pod), .string (str x.node), .int .i64 x.cpu, .int .i64 x.mem, .bool x.alone] 143)) := below_alloc' HT.out.1 _
      refine (lwrong_any Q _ l a b L (H.out.below hbx) x).mono ?_
      rintro e w2 ⟨rfl, hb2⟩
      have HB2 := Lib.hid (below_call hbx hb2)
      clear hb2 hbx q0 q1 q2 q3 q4
      obtain ⟨has, hh⟩ : ∃ q, hasN L.nodes x.node = q := ⟨_, rfl⟩
      rw [hh]
      cases has with
      | false =>
        have HE := Lib.hid (show L.errTake g p = 5 ∧ L.take g p = L from ⟨HN.out.1 hh, LedL.take_not (by rw [HN.out.1 hh]; decide)⟩)
        clear hh
        rw [show errW false = 5 from rfl]
        go_wp2
        go_ret
        exact ⟨ret_int HE.out.1.symm, by rw [HE.out.2]; exact H.out.below HB2.out, Mod.of_below HB2.out⟩
      | true =>
        have HX := Lib.hid (HN.out.2 hh w2 HB2.out)
        clear hh
        rw [show errW true = 0 from rfl]
        go_wp2
        go_roundw
        case rel => exact ⟨j + 1, by go_num, HJ.out, HX.out⟩
        case measure => have := HJ.out; simp [intOf]; omega
    · obtain rfl : j = p.length := by omega
      have HALL := Lib.hid (fun k (hk : k < p.length) => HT.out.2 k hk hk)
      have HW := Lib.hid HT.out.1
      have hmm := @run_makeMap Tryz.prog
      clear hlt c1 HT
      go_upto_block 2 with fail
      have hS0 : SumsAt L p 0 wr.heap.size (wr.alloc (.map #[] 0)) := ⟨[], MapIs.new encS wr, fun nm => by simp [onP, getK]⟩
      have hb0 : Below w.heap.size w (wr.alloc (.map #[] 0)) := below_alloc' HW.out _
      have hBw : w.heap.size ≤ wr.heap.size := HW.out.size
      obtain ⟨B, hB⟩ : ∃ B, wr.heap.size = B := ⟨_, rfl⟩
      rw [hB] at hS0 hBw
      rw [hB]
      generalize World.alloc wr _ = w3 at hS0 hb0 ⊢
      have hT0 : TakeR w L p B 0 w3 := ⟨hb0, hS0, rfl⟩
      have HT0 := Lib.hid hT0
      have HBW := Lib.hid hBw
      clear hS0 hb0 hT0 hB HW hmm hBw
      go_loopw [46] (fun i wr => ∃ j : Nat, i = .int .i64 j ∧ j ≤ p.length ∧ TakeR w L p B j wr) (fun i _ => p.length - (intOf i).toNat)
      case atStart => exact ⟨0, rfl, Nat.zero_le _, HT0.out⟩
      case round =>
        clear HT0
        obtain ⟨j, rfl, hj, hT⟩ := hrel
        have HT := Lib.hid hT
        clear hT
        by_cases hjl : j < p.length
        · have HJ := Lib.hid hjl
          obtain ⟨bb, rfl, hbb, hpc, p0, p1, p2, p3, p4⟩ := HCS.out j hjl
          have q0 := cell_below p0 HT.out.1
          have q1 := cell_below p1 HT.out.1
          have q2 := cell_below p2 HT.out.1
          have q3 := cell_below p3 HT.out.1
          have q4 := cell_below p4 HT.out.1
          have hj0 : (0 : Int) ≤ (j : Int) := by omega
          have hj1 : (j : Int) < (p.length : Int) := by omega
          have hhas := HALL.out j hjl
          have hfx := HFW.out.2 p[j] (List.getElem_mem hjl)
          have hfa := LedL.fitAt_is (L := L) hjl
          have hput := fun (wx : World) (h : SumsIn L p j p[j].node B wx) => SumsIn.put hjl h
          generalize p[j] = x at q0 q1 q2 q3 q4 hhas hfx hfa hput
          have hcp := LedL.cpu_le HOK.out x.node
          have hob := onP_bound HFW.out x.node j
          obtain ⟨U, hU⟩ : ∃ U, L.cpu x.node + cpuS (onP x.node (p.take j)) = U := ⟨_, rfl⟩
          obtain ⟨M, hM⟩ : ∃ M, L.mem x.node + memS (onP x.node (p.take j)) = M := ⟨_, rfl⟩
          rw [hU, hM] at hfa
          simp only [hU, hM] at hput
          have HUM := Lib.hid (show sumV L p j x.node = .agg #[.int .i64 U, .int .i64 M] by unfold sumV; rw [hU, hM])
          have HBD := Lib.hid (show U + x.cpu ≤ 1099511627776000 ∧ M + x.mem ≤ 1099511627776000 by omega)
          have HFA := Lib.hid hfa
          have HPUT := Lib.hid hput
          have HHAS := Lib.hid hhas
          have hsz := HT.out.1.size
          clear p0 p1 p2 p3 p4 hhas hfx hfa hput hcp hob hU hM
          by_cases hz : onP x.node (p.take j) = []
          · have hlk := fun o => HT.out.2.1.look x.node (wr.alloc o) ((below_alloc' (Below.refl _ wr) o).block B (by
              obtain ⟨es, hm, _⟩ := HT.out.2.1.mp
              exact hm.lt))
            simp only [hz, if_true, decide_true, Bool.not_true] at hlk
            have HZN := Lib.hid hz
            clear hz
            go_upto_region 18 with fail
            have hBlt : B < wr.heap.size := by
              obtain ⟨es, hm, _⟩ := HT.out.2.1.mp
              exact hm.lt
            have HB6 := Lib.hid (below_alloc' (below_alloc' HT.out.1 (.cells #[.string (str x.pod), .string (str x.node), .int .i64 x.cpu, .int .i64 x.mem, .bool x.alone] 143)) (.cells #[.int .i64 0, .int .i64 0] 58))
            have HS6 := Lib.hid (HT.out.2.1.below (below_alloc' (below_alloc' (Below.refl _ _) (.cells #[.string (str x.pod), .string (str x.node), .int .i64 x.cpu, .int .i64 x.mem, .bool x.alone] 143)) (.cells #[.int .i64 0, .int .i64 0] 58)))
            have HZ6 := Lib.hid (old_al (o := .cells #[.int .i64 0, .int .i64 0] 58) (alloc_at wr (.cells #[.string (str x.pod), .string (str x.node), .int .i64 x.cpu, .int .i64 x.mem, .bool x.alone] 143)))
            generalize World.alloc (World.alloc wr _) _ = w6 at HB6 HS6 HZ6 ⊢
            have hfacts6 : ∀ w7, Below w6.heap.size w6.drew w7 → w7.cell? ⟨wr.heap.size, 1, none⟩ = some (.string (str x.node)) ∧ LedAt Q w7 l a b L := fun w7 hb => by
              have hb' : Below w6.heap.size w6 w7 := (Below.refl w6.heap.size w6).drew.trans hb
              exact ⟨cell_of_block (block_below HZ6.out hb') 1 _ rfl, H.out.below (below_call HB6.out hb')⟩
            have HF6 := Lib.hid hfacts6
            clear hfacts6 hlk q0 q1 q2 q3 q4
            refine' Par.wp_region_pars (fun w w' => Below w.heap.size w w') 8 (by kernel_rfl) (by kernel_rfl) (by kernel_rfl) (by kernel_rfl) (by kernel_rfl) (by kernel_rfl)
              (fun w => Below.refl _ w) (fun h k => below_call h k) (fun vals => ?_)
            rotate_left
            simp only [List.take_succ_cons, List.take_zero, List.drop_succ_cons, List.drop_zero]
            iterate 2 (apply Par.par_x rfl; (focus (intro w6 hR hD K hK; replace hK := Lib.hid hK; skip; clear hR hD; go_simp; exact hK.out _ (Below.refl _ _))); simp only [Act.put, List.setIfInBounds_toArray, List.set_cons_zero, List.set_cons_succ, Nat.reduceAdd, List.cons_append, List.nil_append])
            (apply Par.par_x rfl; (focus (intro w6 hR hD K hK; replace hK := Lib.hid hK; obtain ⟨e0, _⟩ := HF6.out w6 hR; clear hR hD; go_simp; exact hK.out _ (Below.refl _ _))); simp only [Act.put, List.setIfInBounds_toArray, List.set_cons_zero, List.set_cons_succ, Nat.reduceAdd, List.cons_append, List.nil_append])
            iterate 2 (apply Par.par_x rfl; (focus (intro w6 hR hD K hK; replace hK := Lib.hid hK; skip; clear hR hD; go_simp; exact hK.out _ (Below.refl _ _))); simp only [Act.put, List.setIfInBounds_toArray, List.set_cons_zero, List.set_cons_succ, Nat.reduceAdd, List.cons_append, List.nil_append])
            (apply Par.par_x rfl; (focus (intro w6 hR hD K hK; replace hK := Lib.hid hK; obtain ⟨e0, _⟩ := HF6.out w6 hR; clear hR hD; go_simp; exact hK.out _ (Below.refl _ _))); simp only [Act.put, List.setIfInBounds_toArray, List.set_cons_zero, List.set_cons_succ, Nat.reduceAdd, List.cons_append, List.nil_append])
            (apply Par.par_x rfl; (focus (intro w6 hR hD K hK; replace hK := Lib.hid hK; obtain ⟨_, en⟩ := HF6.out w6 hR; have EN := Lib.hid en; clear hR hD en; go_simp; refine (used_any Q w6 l a b L EN.out x.node HOK.out hk).mono ?_; rintro e w7 ⟨rfl, hb⟩; exact hK.out _ hb)); simp only [Act.put, List.setIfInBounds_toArray, List.set_cons_zero, List.set_cons_succ, Nat.reduceAdd, List.cons_append, List.nil_append])
            (apply Par.par_x (e := .agg #[.int .i64 (L.cpu x.node), .int .i64 (L.mem x.node)]) rfl; (focus (intro w6 hR hD K hK; replace hK := Lib.hid hK; skip; clear hR hD; go_simp; exact hK.out _ (Below.refl _ _))); simp only [Act.put, List.setIfInBounds_toArray, List.set_cons_zero, List.set_cons_succ, Nat.reduceAdd, List.cons_append, List.nil_append])
            refine Par.par_end fun wc hR hp => ?_
            have hbc : Below w6.heap.size w6 wc := (Below.refl w6.heap.size w6).drew.trans hR
            obtain ⟨w7, hr, hS, hT⟩ := (HS6.out.below hbc).put HZN.out
            have hbc2 := below_call HB6.out hbc
            have HB7 := Lib.hid (Gb.below hbc2 hT.gb HBW.out hbc2.size)
            have HS7 := Lib.hid hS
            have HZ7 := Lib.hid (hT.gb.block' (block_below HZ6.out hbc) (by omega))
            clear hp hR hbc hbc2 hS hT hBlt
            go_upto_region 19 with fail
            clear hr
            have hlk := HS7.out.look w7 rfl
            rw [HUM.out] at hlk
            have k1 := cell_of_block HZ7.out 1 _ rfl
            have k2 := cell_of_block HZ7.out 2 _ rfl
            have k3 := cell_of_block HZ7.out 3 _ rfl
            go_wp2_with fail
            refine (add_is U M x.cpu x.mem (by have := HBD.out; omega) (by have := HBD.out; omega) w7).mono ?_
            rintro e w8 ⟨rfl, hb⟩
            have HB8 := Lib.hid (below_call HB7.out hb)
            have HS8 := Lib.hid (HS7.out.below hb)
            have HZ8 := Lib.hid (block_below HZ7.out hb)
            clear hb hlk k1 k2 k3
            go_upto_region 20 with fail
            have HZ9 := Lib.hid (block_below HZ8.out (below_alloc' (Below.refl _ _) (.cells #[.int .i64 ((U : Int) + x.cpu), .int .i64 ((M : Int) + x.mem)] 58)))
            have HV9 := Lib.hid (alloc_at w8 (.cells #[.int .i64 ((U : Int) + x.cpu), .int .i64 ((M : Int) + x.mem)] 58))
            have HB9 := Lib.hid (below_alloc' HB8.out (.cells #[.int .i64 ((U : Int) + x.cpu), .int .i64 ((M : Int) + x.mem)] 58))
            have HS9 := Lib.hid (HS8.out.below (below_alloc' (Below.refl _ _) (.cells #[.int .i64 ((U : Int) + x.cpu), .int .i64 ((M : Int) + x.mem)] 58)))
            generalize World.alloc w8 _ = w9 at HZ9 HV9 HB9 HS9 ⊢
            have HL9 := Lib.hid (H.out.below HB9.out)
            obtain ⟨vn, hln, hvn⟩ := HL9.out.look_nodeS x.node
            obtain ⟨n, hgn, uu, xx, rfl, huu, hxx⟩ : ∃ n, getN L.nodes x.node = some n ∧ NodeQ Q w9 vn n := by
              rcases hvn with h | ⟨h, _⟩
              · exact h
              · have := HHAS.out
                rw [hasN_get, h] at this
                cases this
            obtain ⟨pu, lu, ku, rfl⟩ := own_slice huu.1
            obtain ⟨px, lx, kx, rfl⟩ := own_slice hxx.1
            have hfa := HFA.out
            have hcap : L.cap x.node = (n.cpu, n.mem) := by unfold LedL.cap; rw [hgn]
            rw [hcap] at hfa
            simp only at hfa
            obtain ⟨f, hf⟩ : ∃ f, (decide (U + x.cpu ≤ n.cpu) && decide (M + x.mem ≤ n.mem)) = f := ⟨_, rfl⟩
            rw [hf] at hfa
            have HFF := Lib.hid (And.intro hf hfa)
            have hfacts : ∀ w6, Below w9.heap.size w9.drew w6 → w6.cell? ⟨w8.heap.size, 0, none⟩ = some (.int .i64 ((U : Int) + x.cpu)) ∧ w6.cell? ⟨w8.heap.size, 1, none⟩ = some (.int .i64 ((M : Int) + x.mem)) ∧ w6.cell? ⟨l, 0, none⟩ = some (.map (some a)) ∧ w6.cell? ⟨wr.heap.size, 1, none⟩ = some (.string (str x.node)) ∧ (Instr.lookup 144 (.map (some a)) (.string (str x.node)) false).run Tryz.prog w6 = .ok (.agg #[.string (str n.name), .int .i64 n.cpu, .int .i64 n.mem, .slice pu lu ku, .slice px lx kx, .bool n.closed]) w6 := fun w6 hb => by
              have hb' : Below w9.heap.size w9 w6 := (Below.refl w9.heap.size w9).drew.trans hb
              have kv := block_below HV9.out hb'
              exact ⟨cell_of_block kv 0 _ rfl, cell_of_block kv 1 _ rfl, cell_of_block (block_below HL9.out.box hb') 0 _ rfl, cell_of_block (block_below HZ9.out hb') 1 _ rfl, by simpa using hln w6 (hb'.block a HL9.out.lt.2.1) false⟩
            have HF := Lib.hid hfacts
            clear hfacts hln hvn huu hxx hgn hcap hfa hf
            refine' Par.wp_region_pars (fun w w' => Below w.heap.size w w') 15 (by kernel_rfl) (by kernel_rfl) (by kernel_rfl) (by kernel_rfl) (by kernel_rfl) (by kernel_rfl)
              (fun w => Below.refl _ w) (fun h k => below_call h k) (fun vals => ?_)
            rotate_left
            simp only [List.take_succ_cons, List.take_zero, List.drop_succ_cons, List.drop_zero]
            iterate 3 (apply Par.par_x rfl; (focus (intro w6 hR hD K hK; replace hK := Lib.hid hK; skip; clear hR hD; go_simp; exact hK.out _ (Below.refl _ _))); simp only [Act.put, List.setIfInBounds_toArray, List.set_cons_zero, List.set_cons_succ, Nat.reduceAdd, List.cons_append, List.nil_append])
            (apply Par.par_g; (focus (intro w6 hR hD K hK; replace hK := Lib.hid hK; obtain ⟨e0, e1, e2, e3, e4⟩ := HF.out w6 hR; clear hR hD; go_simp; exact hK.out _ (Below.refl _ _))); simp only [Act.put, List.setIfInBounds_toArray, List.set_cons_zero, List.set_cons_succ, Nat.reduceAdd, List.cons_append, List.nil_append])
            iterate 3 (apply Par.par_g; (focus (intro w6 hR hD K hK; replace hK := Lib.hid hK; skip; clear hR hD; go_simp; exact hK.out _ (Below.refl _ _))); simp only [Act.put, List.setIfInBounds_toArray, List.set_cons_zero, List.set_cons_succ, Nat.reduceAdd, List.cons_append, List.nil_append])
            (apply Par.par_g; (focus (intro w6 hR hD K hK; replace hK := Lib.hid hK; obtain ⟨e0, e1, e2, e3, e4⟩ := HF.out w6 hR; clear hR hD; go_simp; exact hK.out _ (Below.refl _ _))); simp only [Act.put, List.setIfInBounds_toArray, List.set_cons_zero, List.set_cons_succ, Nat.reduceAdd, List.cons_append, List.nil_append])
            (apply Par.par_g; (focus (intro w6 hR hD K hK; replace hK := Lib.hid hK; skip; clear hR hD; go_simp; exact hK.out _ (Below.refl _ _))); simp only [Act.put, List.setIfInBounds_toArray, List.set_cons_zero, List.set_cons_succ, Nat.reduceAdd, List.cons_append, List.nil_append])
            iterate 2 (apply Par.par_g; (focus (intro w6 hR hD K hK; replace hK := Lib.hid hK; obtain ⟨e0, e1, e2, e3, e4⟩ := HF.out w6 hR; clear hR hD; go_simp; exact hK.out _ (Below.refl _ _))); simp only [Act.put, List.setIfInBounds_toArray, List.set_cons_zero, List.set_cons_succ, Nat.reduceAdd, List.cons_append, List.nil_append])
            (apply Par.par_g; (focus (intro w6 hR hD K hK; replace hK := Lib.hid hK; skip; clear hR hD; go_simp; exact hK.out _ (Below.refl _ _))); simp only [Act.put, List.setIfInBounds_toArray, List.set_cons_zero, List.set_cons_succ, Nat.reduceAdd, List.cons_append, List.nil_append])
            (apply Par.par_g; (focus (intro w6 hR hD K hK; replace hK := Lib.hid hK; clear hR hD; go_simp; refine (fits_ix (U + x.cpu) (M + x.mem) n.cpu n.mem _ _ (by simp) (by simp) f HFF.out.1 w6).mono ?_; rintro e w7 ⟨rfl, hb⟩; exact hK.out _ hb)); simp only [Act.put, List.setIfInBounds_toArray, List.set_cons_zero, List.set_cons_succ, Nat.reduceAdd, List.cons_append, List.nil_append])
            (apply Par.par_g; (focus (intro w6 hR hD K hK; replace hK := Lib.hid hK; skip; clear hR hD; go_simp; exact hK.out _ (Below.refl _ _))); simp only [Act.put, List.setIfInBounds_toArray, List.set_cons_zero, List.set_cons_succ, Nat.reduceAdd, List.cons_append, List.nil_append])
            (apply Par.par_x rfl; (focus (intro w6 hR hD K hK; replace hK := Lib.hid hK; skip; clear hR hD; go_simp; exact hK.out _ (Below.refl _ _))); simp only [Act.put, List.setIfInBounds_toArray, List.set_cons_zero, List.set_cons_succ, Nat.reduceAdd, List.cons_append, List.nil_append])
            refine Par.par_end fun wa hR hp => ?_
            have hba : Below w9.heap.size w9 wa := (Below.refl w9.heap.size w9).drew.trans hR
            have HBa := Lib.hid (below_call HB9.out hba)
            have HSa := Lib.hid (HS9.out.below hba)
            have HVa := Lib.hid (block_below HV9.out hba)
            have HZa := Lib.hid (block_below HZ9.out hba)
            clear hp hR hba
            cases f with
            | false =>
              have HE := Lib.hid (show L.errTake g p = 6 ∧ L.take g p = L by
                have e : L.errTake g p = 6 := by rw [LedL.errTake_room HG.out HP0.out HALL.out, LedL.roomTo_false HFF.out.2 _ HJ.out]; rfl
                exact ⟨e, LedL.take_not (by rw [e]; decide)⟩)
              go_wp2
              go_ret
              exact ⟨ret_int HE.out.1.symm, by rw [HE.out.2]; exact H.out.below HBa.out, Mod.of_below HBa.out⟩
            | true =>
              obtain ⟨wb, hr, hS, hT⟩ := HPUT.out wa HSa.out
              simp only [Int.natCast_add] at hr
              have hbb2 : Below w.heap.size w wb := Gb.below HBa.out hT.gb HBW.out HBa.out.size
              have hTR : TakeR w L p B (j + 1) wb := ⟨hbb2, hS, by rw [LedL.roomTo, HT.out.2.2, HFF.out.2]; rfl⟩
              have HTR := Lib.hid hTR
              have k0 := cell_of_block HVa.out 0 _ rfl
              have k1 := cell_of_block HVa.out 1 _ rfl
              have k2 := cell_of_block HZa.out 1 _ rfl
              clear hS hT hbb2 hTR
              go_wp2
              go_roundw
              case rel => exact ⟨j + 1, by go_num, HJ.out, HTR.out⟩
              case measure => have := HJ.out; simp [intOf]; omega
          · have hlk := fun o => HT.out.2.1.look x.node (wr.alloc o) ((below_alloc' (Below.refl _ wr) o).block B (by
              obtain ⟨es, hm, _⟩ := HT.out.2.1.mp
              exact hm.lt))
            simp only [hz, if_false, decide_false, Bool.not_false] at hlk
            simp only [HUM.out] at hlk
            have HS6 := Lib.hid (HT.out.2.1.in_ hz)
            clear hz
            go_upto_region 19 with fail
            have HB7 := Lib.hid (below_alloc' (below_alloc' HT.out.1 (.cells #[.string (str x.pod), .string (str x.node), .int .i64 x.cpu, .int .i64 x.mem, .bool x.alone] 143)) (.cells #[.int .i64 U, .int .i64 M] 58))
            have HS7 := Lib.hid (HS6.out.below (below_alloc' (below_alloc' (Below.refl _ _) (.cells #[.string (str x.pod), .string (str x.node), .int .i64 x.cpu, .int .i64 x.mem, .bool x.alone] 143)) (.cells #[.int .i64 U, .int .i64 M] 58)))
            have HZ7 := Lib.hid (old_al (o := .cells #[.int .i64 U, .int .i64 M] 58) (alloc_at wr (.cells #[.string (str x.pod), .string (str x.node), .int .i64 x.cpu, .int .i64 x.mem, .bool x.alone] 143)))
            generalize World.alloc (World.alloc wr _) _ = w7 at HB7 HS7 HZ7 ⊢
            clear hlk q0 q1 q2 q3 q4
            have hlk := HS7.out.look w7 rfl
            rw [HUM.out] at hlk
            have k1 := cell_of_block HZ7.out 1 _ rfl
            have k2 := cell_of_block HZ7.out 2 _ rfl
            have k3 := cell_of_block HZ7.out 3 _ rfl
            go_wp2_with fail
            refine (add_is U M x.cpu x.mem (by have := HBD.out; omega) (by have := HBD.out; omega) w7).mono ?_
            rintro e w8 ⟨rfl, hb⟩
            have HB8 := Lib.hid (below_call HB7.out hb)
            have HS8 := Lib.hid (HS7.out.below hb)
            have HZ8 := Lib.hid (block_below HZ7.out hb)
            clear hb hlk k1 k2 k3
            go_upto_region 20 with fail
            have HZ9 := Lib.hid (block_below HZ8.out (below_alloc' (Below.refl _ _) (.cells #[.int .i64 ((U : Int) + x.cpu), .int .i64 ((M : Int) + x.mem)] 58)))
            have HV9 := Lib.hid (alloc_at w8 (.cells #[.int .i64 ((U : Int) + x.cpu), .int .i64 ((M : Int) + x.mem)] 58))
            have HB9 := Lib.hid (below_alloc' HB8.out (.cells #[.int .i64 ((U : Int) + x.cpu), .int .i64 ((M : Int) + x.mem)] 58))
            have HS9 := Lib.hid (HS8.out.below (below_alloc' (Below.refl _ _) (.cells #[.int .i64 ((U : Int) + x.cpu), .int .i64 ((M : Int) + x.mem)] 58)))
            generalize World.alloc w8 _ = w9 at HZ9 HV9 HB9 HS9 ⊢
            have HL9 := Lib.hid (H.out.below HB9.out)
            obtain ⟨vn, hln, hvn⟩ := HL9.out.look_nodeS x.node
            obtain ⟨n, hgn, uu, xx, rfl, huu, hxx⟩ : ∃ n, getN L.nodes x.node = some n ∧ NodeQ Q w9 vn n := by
              rcases hvn with h | ⟨h, _⟩
              · exact h
              · have := HHAS.out
                rw [hasN_get, h] at this
                cases this
            obtain ⟨pu, lu, ku, rfl⟩ := own_slice huu.1
            obtain ⟨px, lx, kx, rfl⟩ := own_slice hxx.1
            have hfa := HFA.out
            have hcap : L.cap x.node = (n.cpu, n.mem) := by unfold LedL.cap; rw [hgn]
            rw [hcap] at hfa
            simp only at hfa
            obtain ⟨f, hf⟩ : ∃ f, (decide (U + x.cpu ≤ n.cpu) && decide (M + x.mem ≤ n.mem)) = f := ⟨_, rfl⟩
            rw [hf] at hfa
            have HFF := Lib.hid (And.intro hf hfa)
            have hfacts : ∀ w6, Below w9.heap.size w9.drew w6 → w6.cell? ⟨w8.heap.size, 0, none⟩ = some (.int .i64 ((U : Int) + x.cpu)) ∧ w6.cell? ⟨w8.heap.size, 1, none⟩ = some (.int .i64 ((M : Int) + x.mem)) ∧ w6.cell? ⟨l, 0, none⟩ = some (.map (some a)) ∧ w6.cell? ⟨wr.heap.size, 1, none⟩ = some (.string (str x.node)) ∧ (Instr.lookup 144 (.map (some a)) (.string (str x.node)) false).run Tryz.prog w6 = .ok (.agg #[.string (str n.name), .int .i64 n.cpu, .int .i64 n.mem, .slice pu lu ku, .slice px lx kx, .bool n.closed]) w6 := fun w6 hb => by
              have hb' : Below w9.heap.size w9 w6 := (Below.refl w9.heap.size w9).drew.trans hb
              have kv := block_below HV9.out hb'
              exact ⟨cell_of_block kv 0 _ rfl, cell_of_block kv 1 _ rfl, cell_of_block (block_below HL9.out.box hb') 0 _ rfl, cell_of_block (block_below HZ9.out hb') 1 _ rfl, by simpa using hln w6 (hb'.block a HL9.out.lt.2.1) false⟩
            have HF := Lib.hid hfacts
            clear hfacts hln hvn huu hxx hgn hcap hfa hf
            refine' Par.wp_region_pars (fun w w' => Below w.heap.size w w') 15 (by kernel_rfl) (by kernel_rfl) (by kernel_rfl) (by kernel_rfl) (by kernel_rfl) (by kernel_rfl)
              (fun w => Below.refl _ w) (fun h k => below_call h k) (fun vals => ?_)
            rotate_left
            simp only [List.take_succ_cons, List.take_zero, List.drop_succ_cons, List.drop_zero]
            iterate 3 (apply Par.par_x rfl; (focus (intro w6 hR hD K hK; replace hK := Lib.hid hK; skip; clear hR hD; go_simp; exact hK.out _ (Below.refl _ _))); simp only [Act.put, List.setIfInBounds_toArray, List.set_cons_zero, List.set_cons_succ, Nat.reduceAdd, List.cons_append, List.nil_append])
            (apply Par.par_g; (focus (intro w6 hR hD K hK; replace hK := Lib.hid hK; obtain ⟨e0, e1, e2, e3, e4⟩ := HF.out w6 hR; clear hR hD; go_simp; exact hK.out _ (Below.refl _ _))); simp only [Act.put, List.setIfInBounds_toArray, List.set_cons_zero, List.set_cons_succ, Nat.reduceAdd, List.cons_append, List.nil_append])
            iterate 3 (apply Par.par_g; (focus (intro w6 hR hD K hK; replace hK := Lib.hid hK; skip; clear hR hD; go_simp; exact hK.out _ (Below.refl _ _))); simp only [Act.put, List.setIfInBounds_toArray, List.set_cons_zero, List.set_cons_succ, Nat.reduceAdd, List.cons_append, List.nil_append])
            (apply Par.par_g; (focus (intro w6 hR hD K hK; replace hK := Lib.hid hK; obtain ⟨e0, e1, e2, e3, e4⟩ := HF.out w6 hR; clear hR hD; go_simp; exact hK.out _ (Below.refl _ _))); simp only [Act.put, List.setIfInBounds_toArray, List.set_cons_zero, List.set_cons_succ, Nat.reduceAdd, List.cons_append, List.nil_append])
            (apply Par.par_g; (focus (intro w6 hR hD K hK; replace hK := Lib.hid hK; skip; clear hR hD; go_simp; exact hK.out _ (Below.refl _ _))); simp only [Act.put, List.setIfInBounds_toArray, List.set_cons_zero, List.set_cons_succ, Nat.reduceAdd, List.cons_append, List.nil_append])
            iterate 2 (apply Par.par_g; (focus (intro w6 hR hD K hK; replace hK := Lib.hid hK; obtain ⟨e0, e1, e2, e3, e4⟩ := HF.out w6 hR; clear hR hD; go_simp; exact hK.out _ (Below.refl _ _))); simp only [Act.put, List.setIfInBounds_toArray, List.set_cons_zero, List.set_cons_succ, Nat.reduceAdd, List.cons_append, List.nil_append])
            (apply Par.par_g; (focus (intro w6 hR hD K hK; replace hK := Lib.hid hK; skip; clear hR hD; go_simp; exact hK.out _ (Below.refl _ _))); simp only [Act.put, List.setIfInBounds_toArray, List.set_cons_zero, List.set_cons_succ, Nat.reduceAdd, List.cons_append, List.nil_append])
            (apply Par.par_g; (focus (intro w6 hR hD K hK; replace hK := Lib.hid hK; clear hR hD; go_simp; refine (fits_ix (U + x.cpu) (M + x.mem) n.cpu n.mem _ _ (by simp) (by simp) f HFF.out.1 w6).mono ?_; rintro e w7 ⟨rfl, hb⟩; exact hK.out _ hb)); simp only [Act.put, List.setIfInBounds_toArray, List.set_cons_zero, List.set_cons_succ, Nat.reduceAdd, List.cons_append, List.nil_append])
            (apply Par.par_g; (focus (intro w6 hR hD K hK; replace hK := Lib.hid hK; skip; clear hR hD; go_simp; exact hK.out _ (Below.refl _ _))); simp only [Act.put, List.setIfInBounds_toArray, List.set_cons_zero, List.set_cons_succ, Nat.reduceAdd, List.cons_append, List.nil_append])
            (apply Par.par_x rfl; (focus (intro w6 hR hD K hK; replace hK := Lib.hid hK; skip; clear hR hD; go_simp; exact hK.out _ (Below.refl _ _))); simp only [Act.put, List.setIfInBounds_toArray, List.set_cons_zero, List.set_cons_succ, Nat.reduceAdd, List.cons_append, List.nil_append])
            refine Par.par_end fun wa hR hp => ?_
            have hba : Below w9.heap.size w9 wa := (Below.refl w9.heap.size w9).drew.trans hR
            have HBa := Lib.hid (below_call HB9.out hba)
            have HSa := Lib.hid (HS9.out.below hba)
            have HVa := Lib.hid (block_below HV9.out hba)
            have HZa := Lib.hid (block_below HZ9.out hba)
            clear hp hR hba
            cases f with
            | false =>
              have HE := Lib.hid (show L.errTake g p = 6 ∧ L.take g p = L by
                have e : L.errTake g p = 6 := by rw [LedL.errTake_room HG.out HP0.out HALL.out, LedL.roomTo_false HFF.out.2 _ HJ.out]; rfl
                exact ⟨e, LedL.take_not (by rw [e]; decide)⟩)
              go_wp2
              go_ret
              exact ⟨ret_int HE.out.1.symm, by rw [HE.out.2]; exact H.out.below HBa.out, Mod.of_below HBa.out⟩
            | true =>
              obtain ⟨wb, hr, hS, hT⟩ := HPUT.out wa HSa.out
              simp only [Int.natCast_add] at hr
              have hbb2 : Below w.heap.size w wb := Gb.below HBa.out hT.gb HBW.out HBa.out.size
              have hTR : TakeR w L p B (j + 1) wb := ⟨hbb2, hS, by rw [LedL.roomTo, HT.out.2.2, HFF.out.2]; rfl⟩
              have HTR := Lib.hid hTR
              have k0 := cell_of_block HVa.out 0 _ rfl
              have k1 := cell_of_block HVa.out 1 _ rfl
              have k2 := cell_of_block HZa.out 1 _ rfl
              clear hS hT hbb2 hTR
              go_wp2
              go_roundw
              case rel => exact ⟨j + 1, by go_num, HJ.out, HTR.out⟩
              case measure => have := HJ.out; simp [intOf]; omega
        · obtain rfl : j = p.length := by omega
          have HE := Lib.hid (show L.errTake g p = 0 ∧ L.take g p = { L with taken := setK L.taken g p } by
            have e : L.errTake g p = 0 := by rw [LedL.errTake_room HG.out HP0.out HALL.out, HT.out.2.2]; rfl
            exact ⟨e, LedL.take_yes e⟩)
          have HW := Lib.hid HT.out.1
          clear HT
          go_upto_region 24 with fail
          have hfacts : ∀ w6, Below wr.heap.size wr.drew w6 → w6.cell? ⟨l, 1, none⟩ = some (.map (some b)) ∧ PlacesQ Q w6 (.slice pa p.length pc) p ∧ w.heap.size ≤ w6.heap.size := fun w6 hb => by
            have hb' : Below wr.heap.size wr w6 := (Below.refl wr.heap.size wr).drew.trans hb
            have kb := below_call HW.out hb'
            exact ⟨cell_of_block (H.out.below kb).box 1 _ rfl, Rq.below HPV.out kb, kb.size⟩
          have HF := Lib.hid hfacts
          clear hfacts
          refine' Par.wp_region_pars (fun w w' => Below w.heap.size w w') 7 (by kernel_rfl) (by kernel_rfl) (by kernel_rfl) (by kernel_rfl) (by kernel_rfl) (by kernel_rfl)
            (fun w => Below.refl _ w) (fun h k => below_call h k) (fun vals => ?_)
          rotate_left
          simp only [List.take_succ_cons, List.take_zero, List.drop_succ_cons, List.drop_zero]
          iterate 3 (apply Par.par_x rfl; (focus (intro w6 hR hD K hK; replace hK := Lib.hid hK; skip; clear hR hD; go_simp; exact hK.out _ (Below.refl _ _))); simp only [Act.put, List.setIfInBounds_toArray, List.set_cons_zero, List.set_cons_succ, Nat.reduceAdd, List.cons_append, List.nil_append])
          (apply Par.par_x rfl; (focus (intro w6 hR hD K hK; replace hK := Lib.hid hK; obtain ⟨e0, _⟩ := HF.out w6 hR; clear hR hD; go_simp; exact hK.out _ (Below.refl _ _))); simp only [Act.put, List.setIfInBounds_toArray, List.set_cons_zero, List.set_cons_succ, Nat.reduceAdd, List.cons_append, List.nil_append])
          iterate 2 (apply Par.par_x rfl; (focus (intro w6 hR hD K hK; replace hK := Lib.hid hK; skip; clear hR hD; go_simp; exact hK.out _ (Below.refl _ _))); simp only [Act.put, List.setIfInBounds_toArray, List.set_cons_zero, List.set_cons_succ, Nat.reduceAdd, List.cons_append, List.nil_append])
          (apply Par.par_r (fun v w' => PlacesQ Q w' v p) rfl (fun v w1 w2 h k => Rq.below h k); (focus (intro w6 hR hD K hK; replace hK := Lib.hid hK; obtain ⟨_, en, es⟩ := HF.out w6 hR; have EN := Lib.hid en; have ES := Lib.hid es; clear hR hD en es; go_simp; refine (clone_places w6 _ _ 0 _ EN.out.1 (one_places _) (by omega)).mono ?_; rintro e w7 ⟨v', rfl, ho, hb⟩; exact hK.out _ _ hb (Rq.new ho (fun g hg => Nat.lt_of_lt_of_le (HQ.out g hg) ES.out)))); simp only [Act.put, List.setIfInBounds_toArray, List.set_cons_zero, List.set_cons_succ, Nat.reduceAdd, List.cons_append, List.nil_append])
          refine Par.par_end fun w6 hR hp => ?_
          have hv' : PlacesQ Q w6 (vals 6) p := hp 6 (by simp)
          have hb6 := below_call HW.out ((Below.refl wr.heap.size wr).drew.trans hR)
          obtain ⟨w9, hr, hL, hT⟩ := (H.out.below hb6).put_taken g hv'
          have HL := Lib.hid (And.intro hL (And.intro hT hb6))
          clear hp hR hv' hb6 hL hT
          go_wp2
          go_ret
          exact ⟨ret_int HE.out.1.symm, by rw [HE.out.2]; exact HL.out.1, (Mod.of_below HL.out.2.2).trans HL.out.2.1.mod⟩
end Go.Proofs.YtofofjfmhaggmaaGreatDoor
