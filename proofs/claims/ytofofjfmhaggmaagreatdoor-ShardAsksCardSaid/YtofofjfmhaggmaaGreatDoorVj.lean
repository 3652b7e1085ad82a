/- A node put into a ledger, by the program. -/
import Derived.Test.YtofofjfmhaggmaaGreatDoorVi
set_option linter.unusedVariables false
set_option linter.unusedSimpArgs false
namespace Go.Proofs.YtofofjfmhaggmaaGreatDoor
open Go.RowKit

theorem errN_cases (n : NodeL) : errN n = 0 ∨ errN n = 1 ∨ errN n = 2 := by
  unfold errN
  split
  · exact .inr (.inl rfl)
  · split
    · exact .inr (.inr rfl)
    · split
      · exact .inr (.inl rfl)
      · exact .inl rfl
theorem errPut_bad {L : LedL} {n : NodeL} {e : Int} (h : errN n = e) (he : e ≠ 0) : L.errPut n = e ∧ L.put n = L := by
  have h' : errNd n = e := h
  have k : L.errPut n = e := by unfold LedL.errPut; rw [if_pos (by rw [h']; exact he), h']
  exact ⟨k, by unfold LedL.put; rw [if_neg (by rw [k]; exact he)]⟩
theorem errPut_has {L : LedL} {n : NodeL} (h : errN n = 0) (hh : hasN L.nodes n.name = true) : L.errPut n = if (decide (L.cpu n.name ≤ n.cpu) && decide (L.mem n.name ≤ n.mem)) = true then 0 else 6 := by
  have h' : errNd n = 0 := h
  unfold LedL.errPut
  rw [if_neg (by rw [h']; simp), if_pos hh]
theorem errPut_new {L : LedL} {n : NodeL} (h : errN n = 0) (hh : hasN L.nodes n.name = false) : L.errPut n = if 8 ≤ L.nodes.length then 3 else 0 := by
  have h' : errNd n = 0 := h
  unfold LedL.errPut
  rw [if_neg (by rw [h']; simp), if_neg (by rw [hh]; simp)]
theorem put_not {L : LedL} {n : NodeL} (h : L.errPut n ≠ 0) : L.put n = L := by unfold LedL.put; rw [if_neg h]
theorem put_yes {L : LedL} {n : NodeL} (h : L.errPut n = 0) : L.put n = { L with nodes := putN L.nodes n } := by unfold LedL.put; rw [if_pos h]
theorem used_is (Q : Nat → Prop) (w : World) (l a b : Nat) (L : LedL) (h : LedAt Q w l a b L) (nm : List UInt8) (hok : L.ok) (hk : L.taken.length ≤ 1073741824) {s : ByteArray} (hs : str nm = s) :
    Calls Tryz.prog 81 #[.pointer (some ⟨l, 0, none⟩), .string s] w fun e w' => e = .returned (.agg #[.int .i64 (L.cpu nm), .int .i64 (L.mem nm), .int .i64 (L.pods nm)]) ∧ Below w.heap.size w w' := by
  rw [← hs]; exact used_any Q w l a b L h nm hok hk
/-- What the walk of Put reads: the map, the node's box. -/
def PutF (l a : Nat) (w0 : World) (nmL : List UInt8) (nm : ByteArray) (c m : Nat) (u x : Value) (cl : Bool) (w6 : World) : Prop :=
  w6.cell? ⟨l, 0, none⟩ = some (.map (some a)) ∧ w6.cell? ⟨w0.heap.size, 0, none⟩ = some (.string nm) ∧ w6.cell? ⟨w0.heap.size, 1, none⟩ = some (.int .i64 c) ∧ w6.cell? ⟨w0.heap.size, 2, none⟩ = some (.int .i64 m) ∧ w6.cell? ⟨w0.heap.size, 3, none⟩ = some u ∧ w6.cell? ⟨w0.heap.size, 4, none⟩ = some x ∧ w6.cell? ⟨w0.heap.size, 5, none⟩ = some (.bool cl)
theorem putF {Q : Nat → Prop} {l a b : Nat} {L : LedL} {w0 w6 : World} {nmL : List UInt8} {nm : ByteArray} {c m : Nat} {u x : Value} {cl : Bool} (hz : w6.heap[w0.heap.size]? = some (.cells #[.string nm, .int .i64 c, .int .i64 m, u, x, .bool cl] 60 (0, 0))) (h : LedAt Q w6 l a b L) : PutF l a w0 nmL nm c m u x cl w6 :=
  ⟨cell_of_block h.box 0 _ rfl, cell_of_block hz 0 _ rfl, cell_of_block hz 1 _ rfl, cell_of_block hz 2 _ rfl, cell_of_block hz 3 _ rfl, cell_of_block hz 4 _ rfl, cell_of_block hz 5 _ rfl⟩
set_option maxRecDepth 100000 in
set_option maxHeartbeats 4000000 in
theorem lput_any (Q : Nat → Prop) (w : World) (l a b : Nat) (L : LedL) (h : LedAt Q w l a b L) (hok : L.ok) (hk : L.taken.length ≤ 1073741824) (hQ : ∀ g, Q g → g < w.heap.size) (v : Value) (n : NodeL) (hn : NodeQ Q w v n) (hf : n.few) :
    Calls Tryz.prog 48 #[.pointer (some ⟨l, 0, none⟩), v] w fun e w' => e = .returned (.int .i64 (L.errPut n)) ∧ LedAt Q w' l a b (L.put n) ∧ Mod (fun k => k = a) w w' := by
  have H := Lib.hid h
  have HQ := Lib.hid hQ
  have HOK := Lib.hid hok
  have HFW := Lib.hid hf
  have hn' := hn
  obtain ⟨u, x, rfl, hu, hx⟩ := hn'
  obtain ⟨au, lu, cu, rfl⟩ := own_slice hu.1
  obtain ⟨ax, lx, cx, rfl⟩ := own_slice hx.1
  have HAT := Lib.hid hn.at
  have HNQ := Lib.hid hn
  obtain ⟨nm, hnm⟩ : ∃ y, str n.name = y := ⟨_, rfl⟩
  have HNM := Lib.hid hnm
  rw [hnm] at HAT HNQ
  rw [hnm]
  clear hu hx hn hf hok hQ h hnm
  go_enter Tryz.func48, Tryz.ntmps48
  go_wp2_with fail
  have z0 := alloc_at w (.cells #[.string nm, .int .i64 n.cpu, .int .i64 n.mem, .slice au lu cu, .slice ax lx cx, .bool n.closed] 60)
  have hb0 : Below w.heap.size w (w.alloc (.cells #[.string nm, .int .i64 n.cpu, .int .i64 n.mem, .slice au lu cu, .slice ax lx cx, .bool n.closed] 60)) := below_alloc' (Below.refl _ _) _
  generalize World.alloc w _ = w1 at z0 hb0 ⊢
  refine (snode_any 0 _ n w1 (HAT.out.below hb0) HFW.out).mono ?_
  rintro e w2 ⟨rfl, hb⟩
  have Z0 := Lib.hid (block_below z0 hb)
  have HB := Lib.hid (below_call hb0 hb)
  clear z0 hb0 hb
  rcases errN_cases n with he | he | he
  rotate_left
  · have HE := Lib.hid (errPut_bad (L := L) he (by decide))
    rw [he]
    clear he
    go_wp2
    go_ret
    exact ⟨ret_int HE.out.1.symm, by rw [HE.out.2]; exact H.out.below HB.out, Mod.of_below HB.out⟩
  · have HE := Lib.hid (errPut_bad (L := L) he (by decide))
    rw [he]
    clear he
    go_wp2
    go_ret
    exact ⟨ret_int HE.out.1.symm, by rw [HE.out.2]; exact H.out.below HB.out, Mod.of_below HB.out⟩
  rw [he]
  have HER := Lib.hid he
  clear he
  have HL2 := Lib.hid (H.out.below HB.out)
  obtain ⟨v, hl0, hv⟩ := HL2.out.look_nodeS n.name
  rw [HNM.out] at hl0
  obtain ⟨s, a1, b1, u, x, c, rfl, ⟨pu, lu', ku, rfl⟩, ⟨px, lx', kx, rfl⟩⟩ := node_agg hv
  obtain ⟨has, hhas⟩ : ∃ q, hasN L.nodes n.name = q := ⟨_, rfl⟩
  rw [hhas] at hl0
  have HHAS := Lib.hid hhas
  have hfacts : ∀ w6, Shp w2.heap.size w2.drew w6 → w6.cell? ⟨l, 0, none⟩ = some (.map (some a)) ∧ w6.cell? ⟨w.heap.size, 0, none⟩ = some (.string nm) ∧ (Instr.lookup 144 (.map (some a)) (.string nm) true).run Tryz.prog w6 = .ok (.tuple #[.agg #[.string s, .int .i64 a1, .int .i64 b1, .slice pu lu' ku, .slice px lx' kx, .bool c], .bool has]) w6 := fun w6 hb => by
    have hb' : Below w2.heap.size w2 w6 := (Below.refl w2.heap.size w2).drew.trans (hb (Nat.le_refl _)).1
    exact ⟨cell_of_block (block_below HL2.out.box hb') 0 _ rfl, cell_of_block (block_below Z0.out hb') 0 _ rfl, by simpa using hl0 w6 (hb'.block a HL2.out.lt.2.1) true⟩
  have HF := Lib.hid hfacts
  clear hfacts hl0 hv hhas
  go_upto_region 4 with fail
  refine' Par.wp_region_pars (Shp w2.heap.size) 12 (by kernel_rfl) (by kernel_rfl) (by kernel_rfl) (by kernel_rfl) (by kernel_rfl) (by kernel_rfl)
    (fun w => Shp.refl _ w) (fun h k => Shp.trans h k) (fun vals => ?_)
  rotate_left
  simp only [List.take_succ_cons, List.take_zero, List.drop_succ_cons, List.drop_zero]
  iterate 3 (apply Par.par_x rfl; (focus (intro w6 hR hD K hK; replace hK := Lib.hid hK; skip; clear hR hD; go_simp; exact hK.out _ (Shp.refl _ _))); simp only [Act.put, List.setIfInBounds_toArray, List.set_cons_zero, List.set_cons_succ, Nat.reduceAdd, List.cons_append, List.nil_append])
  (apply Par.par_x rfl; (focus (intro w6 hR hD K hK; replace hK := Lib.hid hK; obtain ⟨e0, e1, e2⟩ := HF.out w6 hR; clear hR hD; go_simp; exact hK.out _ (Shp.refl _ _))); simp only [Act.put, List.setIfInBounds_toArray, List.set_cons_zero, List.set_cons_succ, Nat.reduceAdd, List.cons_append, List.nil_append])
  (apply Par.par_x rfl; (focus (intro w6 hR hD K hK; replace hK := Lib.hid hK; skip; clear hR hD; go_simp; exact hK.out _ (Shp.refl _ _))); simp only [Act.put, List.setIfInBounds_toArray, List.set_cons_zero, List.set_cons_succ, Nat.reduceAdd, List.cons_append, List.nil_append])
  iterate 2 (apply Par.par_x rfl; (focus (intro w6 hR hD K hK; replace hK := Lib.hid hK; obtain ⟨e0, e1, e2⟩ := HF.out w6 hR; clear hR hD; go_simp; exact hK.out _ (Shp.refl _ _))); simp only [Act.put, List.setIfInBounds_toArray, List.set_cons_zero, List.set_cons_succ, Nat.reduceAdd, List.cons_append, List.nil_append])
  iterate 3 (apply Par.par_x rfl; (focus (intro w6 hR hD K hK; replace hK := Lib.hid hK; skip; clear hR hD; go_simp; exact hK.out _ (Shp.refl _ _))); simp only [Act.put, List.setIfInBounds_toArray, List.set_cons_zero, List.set_cons_succ, Nat.reduceAdd, List.cons_append, List.nil_append])
  (apply Par.par_r (fun v w' => New6 w2.heap.size 60 v w' ∧ w2.heap.size ≤ w'.heap.size) rfl (fun v x y h k => ⟨h.1.shp k h.2, Nat.le_trans h.2 (k h.2).1.size⟩); (focus (intro w6 hR hD K hK; replace hK := Lib.hid hK; have hs : w2.heap.size ≤ w6.heap.size := (hR (Nat.le_refl _)).1.size; clear hR hD; go_simp; exact hK.out _ _ (Shp.of_below (below_alloc' (Below.refl _ _) _)) ⟨⟨_, _, _, _, _, _, _, rfl, hs, alloc_at _ _⟩, Nat.le_trans hs (by simp)⟩)); simp only [Act.put, List.setIfInBounds_toArray, List.set_cons_zero, List.set_cons_succ, Nat.reduceAdd, List.cons_append, List.nil_append])
  (apply Par.par_x (e := undef) rfl; (focus (intro w6 hR hD K hK; replace hK := Lib.hid hK; obtain ⟨⟨g, c0, c1, c2, c3, c4, c5, eg, hg, hz⟩, hs⟩ : New6 w2.heap.size 60 (vals 10) w6 ∧ w2.heap.size ≤ w6.heap.size := hD 10 (by kernel_rfl); simp only [eg] at hK ⊢; have k0 := cell_of_block hz 0 _ rfl; have k1 := cell_of_block hz 1 _ rfl; have k2 := cell_of_block hz 2 _ rfl; have k3 := cell_of_block hz 3 _ rfl; have k4 := cell_of_block hz 4 _ rfl; have k5 := cell_of_block hz 5 _ rfl; have kf := free_of_block hz; have HZ := Lib.hid (And.intro hz hg); clear hR hD hz hg hs eg; go_simp; exact hK.out _ (Shp.of_gb HZ.out.1 (put6 _ _ _ _ _ _ HZ.out.1).1 rfl (put6 _ _ _ _ _ _ HZ.out.1).2 HZ.out.2))); simp only [Act.put, List.setIfInBounds_toArray, List.set_cons_zero, List.set_cons_succ, Nat.reduceAdd, List.cons_append, List.nil_append])
  refine Par.par_end fun w4 hR hp => ?_
  have HB24 := Lib.hid ((Below.refl w2.heap.size w2).drew.trans (hR (Nat.le_refl _)).1)
  have HB4 := Lib.hid (below_call HB.out HB24.out)
  have Z4 := Lib.hid (block_below Z0.out HB24.out)
  clear hp hR HF
  cases has with
  | true =>
    obtain ⟨f, hfit⟩ : ∃ f, (decide (L.cpu n.name ≤ n.cpu) && decide (L.mem n.name ≤ n.mem)) = f := ⟨_, rfl⟩
    have HFIT := Lib.hid hfit
    have hEP := errPut_has HER.out HHAS.out
    rw [hfit] at hEP
    have HEP := Lib.hid hEP
    clear hfit hEP
    go_upto_region 5 with fail
    have hfacts5 : ∀ w6, Below w4.heap.size w4.drew w6 → PutF l a w n.name nm n.cpu n.mem (.slice au lu cu) (.slice ax lx cx) n.closed w6 ∧ LedAt Q w6 l a b L := fun w6 hb => by
      have hb' : Below w4.heap.size w4 w6 := (Below.refl w4.heap.size w4).drew.trans hb
      have kb := below_call HB4.out hb'
      exact ⟨putF (block_below Z4.out hb') (H.out.below kb), H.out.below kb⟩
    have HF5 := Lib.hid hfacts5
    clear hfacts5
    refine' Par.wp_region_pars (fun w w' => Below w.heap.size w w') 13 (by kernel_rfl) (by kernel_rfl) (by kernel_rfl) (by kernel_rfl) (by kernel_rfl) (by kernel_rfl)
      (fun w => Below.refl _ w) (fun h k => below_call h k) (fun vals => ?_)
    rotate_left
    simp only [List.take_succ_cons, List.take_zero, List.drop_succ_cons, List.drop_zero]
    iterate 2 (apply Par.par_x rfl; (focus (intro w6 hR hD K hK; replace hK := Lib.hid hK; skip; clear hR hD; go_simp; exact hK.out _ (Below.refl _ _))); simp only [Act.put, List.setIfInBounds_toArray, List.set_cons_zero, List.set_cons_succ, Nat.reduceAdd, List.cons_append, List.nil_append])
    iterate 2 (apply Par.par_g; (focus (intro w6 hR hD K hK; replace hK := Lib.hid hK; skip; clear hR hD; go_simp; exact hK.out _ (Below.refl _ _))); simp only [Act.put, List.setIfInBounds_toArray, List.set_cons_zero, List.set_cons_succ, Nat.reduceAdd, List.cons_append, List.nil_append])
    (apply Par.par_g; (focus (intro w6 hR hD K hK; replace hK := Lib.hid hK; obtain ⟨⟨el, e0, e1, e2, e3, e4, e5⟩, _⟩ := HF5.out w6 hR; clear hR hD; go_simp; exact hK.out _ (Below.refl _ _))); simp only [Act.put, List.setIfInBounds_toArray, List.set_cons_zero, List.set_cons_succ, Nat.reduceAdd, List.cons_append, List.nil_append])
    (apply Par.par_g; (focus (intro w6 hR hD K hK; replace hK := Lib.hid hK; obtain ⟨_, en⟩ := HF5.out w6 hR; have EN := Lib.hid en; clear hR hD en; go_simp; refine (used_is Q w6 l a b L EN.out n.name HOK.out hk HNM.out).mono ?_; rintro e w7 ⟨rfl, hb⟩; exact hK.out _ hb)); simp only [Act.put, List.setIfInBounds_toArray, List.set_cons_zero, List.set_cons_succ, Nat.reduceAdd, List.cons_append, List.nil_append])
    iterate 2 (apply Par.par_g; (focus (intro w6 hR hD K hK; replace hK := Lib.hid hK; skip; clear hR hD; go_simp; exact hK.out _ (Below.refl _ _))); simp only [Act.put, List.setIfInBounds_toArray, List.set_cons_zero, List.set_cons_succ, Nat.reduceAdd, List.cons_append, List.nil_append])
    (apply Par.par_g; (focus (intro w6 hR hD K hK; replace hK := Lib.hid hK; obtain ⟨⟨el, e0, e1, e2, e3, e4, e5⟩, _⟩ := HF5.out w6 hR; clear hR hD; go_simp; exact hK.out _ (Below.refl _ _))); simp only [Act.put, List.setIfInBounds_toArray, List.set_cons_zero, List.set_cons_succ, Nat.reduceAdd, List.cons_append, List.nil_append])
    (apply Par.par_g; (focus (intro w6 hR hD K hK; replace hK := Lib.hid hK; clear hR hD; go_simp; refine (fits_is _ _ _ _ f HFIT.out w6).mono ?_; rintro e w7 ⟨rfl, hb⟩; exact hK.out _ hb)); simp only [Act.put, List.setIfInBounds_toArray, List.set_cons_zero, List.set_cons_succ, Nat.reduceAdd, List.cons_append, List.nil_append])
    (apply Par.par_g; (focus (intro w6 hR hD K hK; replace hK := Lib.hid hK; skip; clear hR hD; go_simp; exact hK.out _ (Below.refl _ _))); simp only [Act.put, List.setIfInBounds_toArray, List.set_cons_zero, List.set_cons_succ, Nat.reduceAdd, List.cons_append, List.nil_append])
    iterate 2 (apply Par.par_x rfl; (focus (intro w6 hR hD K hK; replace hK := Lib.hid hK; skip; clear hR hD; go_simp; exact hK.out _ (Below.refl _ _))); simp only [Act.put, List.setIfInBounds_toArray, List.set_cons_zero, List.set_cons_succ, Nat.reduceAdd, List.cons_append, List.nil_append])
    refine Par.par_end fun w5 hR hp => ?_
    have HB45 := Lib.hid ((Below.refl w4.heap.size w4).drew.trans hR)
    have HB5 := Lib.hid (below_call HB4.out HB45.out)
    have Z5 := Lib.hid (block_below Z4.out HB45.out)
    clear hp hR
    cases f with
    | false =>
      have HE := Lib.hid (show L.errPut n = 6 ∧ L.put n = L from ⟨by rw [HEP.out]; rfl, put_not (by rw [HEP.out]; decide)⟩)
      go_wp2
      go_ret
      exact ⟨ret_int HE.out.1.symm, by rw [HE.out.2]; exact H.out.below HB5.out, Mod.of_below HB5.out⟩
    | true =>
      have HE := Lib.hid (show L.errPut n = 0 ∧ L.put n = { L with nodes := putN L.nodes n } from ⟨by rw [HEP.out]; rfl, put_yes (by rw [HEP.out]; rfl)⟩)
      go_upto_region 9 with fail
      have hfacts9 : ∀ w6, Below w5.heap.size w5.drew w6 → PutF l a w n.name nm n.cpu n.mem (.slice au lu cu) (.slice ax lx cx) n.closed w6 ∧ NodeQ Q w6 (.agg #[.string nm, .int .i64 n.cpu, .int .i64 n.mem, .slice au lu cu, .slice ax lx cx, .bool n.closed]) n ∧ w.heap.size ≤ w6.heap.size := fun w6 hb => by
        have hb' : Below w5.heap.size w5 w6 := (Below.refl w5.heap.size w5).drew.trans hb
        have kb := below_call HB5.out hb'
        exact ⟨putF (block_below Z5.out hb') (H.out.below kb), HNQ.out.below kb, kb.size⟩
      have HF9 := Lib.hid hfacts9
      clear hfacts9
      refine' Par.wp_region_pars (fun w w' => Below w.heap.size w w') 8 (by kernel_rfl) (by kernel_rfl) (by kernel_rfl) (by kernel_rfl) (by kernel_rfl) (by kernel_rfl)
        (fun w => Below.refl _ w) (fun h k => below_call h k) (fun vals => ?_)
      rotate_left
      simp only [List.take_succ_cons, List.take_zero, List.drop_succ_cons, List.drop_zero]
      iterate 3 (apply Par.par_x rfl; (focus (intro w6 hR hD K hK; replace hK := Lib.hid hK; skip; clear hR hD; go_simp; exact hK.out _ (Below.refl _ _))); simp only [Act.put, List.setIfInBounds_toArray, List.set_cons_zero, List.set_cons_succ, Nat.reduceAdd, List.cons_append, List.nil_append])
      (apply Par.par_x rfl; (focus (intro w6 hR hD K hK; replace hK := Lib.hid hK; obtain ⟨⟨el, e0, e1, e2, e3, e4, e5⟩, _⟩ := HF9.out w6 hR; clear hR hD; go_simp; exact hK.out _ (Below.refl _ _))); simp only [Act.put, List.setIfInBounds_toArray, List.set_cons_zero, List.set_cons_succ, Nat.reduceAdd, List.cons_append, List.nil_append])
      (apply Par.par_x rfl; (focus (intro w6 hR hD K hK; replace hK := Lib.hid hK; skip; clear hR hD; go_simp; exact hK.out _ (Below.refl _ _))); simp only [Act.put, List.setIfInBounds_toArray, List.set_cons_zero, List.set_cons_succ, Nat.reduceAdd, List.cons_append, List.nil_append])
      iterate 2 (apply Par.par_x rfl; (focus (intro w6 hR hD K hK; replace hK := Lib.hid hK; obtain ⟨⟨el, e0, e1, e2, e3, e4, e5⟩, _⟩ := HF9.out w6 hR; clear hR hD; go_simp; exact hK.out _ (Below.refl _ _))); simp only [Act.put, List.setIfInBounds_toArray, List.set_cons_zero, List.set_cons_succ, Nat.reduceAdd, List.cons_append, List.nil_append])
      (apply Par.par_r (fun v w' => NodeQ Q w' v n) rfl (fun v w1 w2 h k => h.below k); (focus (intro w6 hR hD K hK; replace hK := Lib.hid hK; obtain ⟨_, en, es⟩ := HF9.out w6 hR; have EN := Lib.hid en; have ES := Lib.hid es; clear hR hD en es; go_simp; refine (lown_any Q w6 _ n EN.out HFW.out (fun g hg => Nat.lt_of_lt_of_le (HQ.out g hg) ES.out)).mono ?_; rintro e w7 ⟨v', rfl, hv', hb⟩; exact hK.out _ _ hb hv')); simp only [Act.put, List.setIfInBounds_toArray, List.set_cons_zero, List.set_cons_succ, Nat.reduceAdd, List.cons_append, List.nil_append])
      refine Par.par_end fun w6 hR hp => ?_
      have hv' : NodeQ Q w6 (vals 7) n := hp 7 (by simp)
      have hb6 := below_call HB5.out ((Below.refl w5.heap.size w5).drew.trans hR)
      obtain ⟨w9, hr, hL, hT⟩ := (H.out.below hb6).put_node hv'
      rw [HNM.out] at hr
      have HL := Lib.hid (And.intro hL (And.intro hT hb6))
      clear hp hR hv' hb6 hL hT
      go_wp2
      go_ret
      exact ⟨ret_int HE.out.1.symm, by rw [HE.out.2]; exact HL.out.1, (Mod.of_below HL.out.2.2).trans HL.out.2.1.mod⟩
  | false =>
    go_upto_region 5 with fail
    refine' Par.wp_region_pars (fun w w' => Below w.heap.size w w') 13 (by kernel_rfl) (by kernel_rfl) (by kernel_rfl) (by kernel_rfl) (by kernel_rfl) (by kernel_rfl)
      (fun w => Below.refl _ w) (fun h k => below_call h k) (fun vals => ?_)
    rotate_left
    simp only [List.take_succ_cons, List.take_zero, List.drop_succ_cons, List.drop_zero]
    iterate 2 (apply Par.par_x rfl; (focus (intro w6 hR hD K hK; replace hK := Lib.hid hK; skip; clear hR hD; go_simp; exact hK.out _ (Below.refl _ _))); simp only [Act.put, List.setIfInBounds_toArray, List.set_cons_zero, List.set_cons_succ, Nat.reduceAdd, List.cons_append, List.nil_append])
    iterate 9 (apply Par.par_g (e := undef); (focus (intro w6 hR hD K hK; replace hK := Lib.hid hK; clear hR hD; go_simp; exact hK.out _ (Below.refl _ _))); simp only [Act.put, List.setIfInBounds_toArray, List.set_cons_zero, List.set_cons_succ, Nat.reduceAdd, List.cons_append, List.nil_append])
    iterate 2 (apply Par.par_x rfl; (focus (intro w6 hR hD K hK; replace hK := Lib.hid hK; skip; clear hR hD; go_simp; exact hK.out _ (Below.refl _ _))); simp only [Act.put, List.setIfInBounds_toArray, List.set_cons_zero, List.set_cons_succ, Nat.reduceAdd, List.cons_append, List.nil_append])
    refine Par.par_end fun w5 hR hp => ?_
    have HB45 := Lib.hid ((Below.refl w4.heap.size w4).drew.trans hR)
    have HB5 := Lib.hid (below_call HB4.out HB45.out)
    have Z5 := Lib.hid (block_below Z4.out HB45.out)
    have hlen := (H.out.below HB5.out).len_nodes
    have c0 := cell_of_block (H.out.below HB5.out).box 0 _ rfl
    clear hp hR
    by_cases h8 : 8 ≤ L.nodes.length
    · have HE := Lib.hid (show L.errPut n = 3 ∧ L.put n = L from ⟨by rw [errPut_new HER.out HHAS.out, if_pos h8], put_not (by rw [errPut_new HER.out HHAS.out, if_pos h8]; decide)⟩)
      have h8i : (8 : Int) ≤ (L.nodes.length : Int) := by omega
      go_wp2
      go_ret
      exact ⟨ret_int HE.out.1.symm, by rw [HE.out.2]; exact H.out.below HB5.out, Mod.of_below HB5.out⟩
    · have HE := Lib.hid (show L.errPut n = 0 ∧ L.put n = { L with nodes := putN L.nodes n } from ⟨by rw [errPut_new HER.out HHAS.out, if_neg h8], put_yes (by rw [errPut_new HER.out HHAS.out, if_neg h8])⟩)
      have h8i : ¬ (8 : Int) ≤ (L.nodes.length : Int) := by omega
      go_upto_region 9 with fail
      clear hlen c0
      go_upto_region 9 with fail
      have hfacts9 : ∀ w6, Below w5.heap.size w5.drew w6 → PutF l a w n.name nm n.cpu n.mem (.slice au lu cu) (.slice ax lx cx) n.closed w6 ∧ NodeQ Q w6 (.agg #[.string nm, .int .i64 n.cpu, .int .i64 n.mem, .slice au lu cu, .slice ax lx cx, .bool n.closed]) n ∧ w.heap.size ≤ w6.heap.size := fun w6 hb => by
        have hb' : Below w5.heap.size w5 w6 := (Below.refl w5.heap.size w5).drew.trans hb
        have kb := below_call HB5.out hb'
        exact ⟨putF (block_below Z5.out hb') (H.out.below kb), HNQ.out.below kb, kb.size⟩
      have HF9 := Lib.hid hfacts9
      clear hfacts9
      refine' Par.wp_region_pars (fun w w' => Below w.heap.size w w') 8 (by kernel_rfl) (by kernel_rfl) (by kernel_rfl) (by kernel_rfl) (by kernel_rfl) (by kernel_rfl)
        (fun w => Below.refl _ w) (fun h k => below_call h k) (fun vals => ?_)
      rotate_left
      simp only [List.take_succ_cons, List.take_zero, List.drop_succ_cons, List.drop_zero]
      iterate 3 (apply Par.par_x rfl; (focus (intro w6 hR hD K hK; replace hK := Lib.hid hK; skip; clear hR hD; go_simp; exact hK.out _ (Below.refl _ _))); simp only [Act.put, List.setIfInBounds_toArray, List.set_cons_zero, List.set_cons_succ, Nat.reduceAdd, List.cons_append, List.nil_append])
      (apply Par.par_x rfl; (focus (intro w6 hR hD K hK; replace hK := Lib.hid hK; obtain ⟨⟨el, e0, e1, e2, e3, e4, e5⟩, _⟩ := HF9.out w6 hR; clear hR hD; go_simp; exact hK.out _ (Below.refl _ _))); simp only [Act.put, List.setIfInBounds_toArray, List.set_cons_zero, List.set_cons_succ, Nat.reduceAdd, List.cons_append, List.nil_append])
      (apply Par.par_x rfl; (focus (intro w6 hR hD K hK; replace hK := Lib.hid hK; skip; clear hR hD; go_simp; exact hK.out _ (Below.refl _ _))); simp only [Act.put, List.setIfInBounds_toArray, List.set_cons_zero, List.set_cons_succ, Nat.reduceAdd, List.cons_append, List.nil_append])
      iterate 2 (apply Par.par_x rfl; (focus (intro w6 hR hD K hK; replace hK := Lib.hid hK; obtain ⟨⟨el, e0, e1, e2, e3, e4, e5⟩, _⟩ := HF9.out w6 hR; clear hR hD; go_simp; exact hK.out _ (Below.refl _ _))); simp only [Act.put, List.setIfInBounds_toArray, List.set_cons_zero, List.set_cons_succ, Nat.reduceAdd, List.cons_append, List.nil_append])
      (apply Par.par_r (fun v w' => NodeQ Q w' v n) rfl (fun v w1 w2 h k => h.below k); (focus (intro w6 hR hD K hK; replace hK := Lib.hid hK; obtain ⟨_, en, es⟩ := HF9.out w6 hR; have EN := Lib.hid en; have ES := Lib.hid es; clear hR hD en es; go_simp; refine (lown_any Q w6 _ n EN.out HFW.out (fun g hg => Nat.lt_of_lt_of_le (HQ.out g hg) ES.out)).mono ?_; rintro e w7 ⟨v', rfl, hv', hb⟩; exact hK.out _ _ hb hv')); simp only [Act.put, List.setIfInBounds_toArray, List.set_cons_zero, List.set_cons_succ, Nat.reduceAdd, List.cons_append, List.nil_append])
      refine Par.par_end fun w6 hR hp => ?_
      have hv' : NodeQ Q w6 (vals 7) n := hp 7 (by simp)
      have hb6 := below_call HB5.out ((Below.refl w5.heap.size w5).drew.trans hR)
      obtain ⟨w9, hr, hL, hT⟩ := (H.out.below hb6).put_node hv'
      rw [HNM.out] at hr
      have HL := Lib.hid (And.intro hL (And.intro hT hb6))
      clear hp hR hv' hb6 hL hT
      go_wp2
      go_ret
      exact ⟨ret_int HE.out.1.symm, by rw [HE.out.2]; exact HL.out.1, (Mod.of_below HL.out.2.2).trans HL.out.2.1.mod⟩
end Go.Proofs.YtofofjfmhaggmaaGreatDoor
