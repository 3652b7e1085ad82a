/- A gang's state, its places, what is used, told by a shard; a node put; a node gone from a ledger; a new ledger. -/
import Derived.Test.YtofofjfmhaggmaaGreatDoorWr
set_option linter.unusedVariables false
set_option linter.unusedSimpArgs false
namespace Go.Proofs.YtofofjfmhaggmaaGreatDoor
open Go.RowKit

theorem elt_msgs : Elt Tryz.prog 30 28 7 88 := elt_of Tryz.underlying30 (by decide) (by decide) (by kernel_rfl)
set_option maxRecDepth 100000 in
theorem clone_msgs (w : World) (v : Value) (n base : Nat) (xs : List Value) (h : w.ownsRow base 28 7 v n xs) (h1 : ∀ u ∈ xs, u.oneCell' = true) (hn : n ≤ 1099511627776) :
    Calls Tryz.prog 56 #[v] w fun e w' => ∃ v', e = .returned v' ∧ w'.ownsRow w.heap.size 28 7 v' n xs ∧ Below w.heap.size w w' := by
  have qn : ∀ (w : World) (a : Option Addr) (n c n' c' : Nat), (binOp .eql 30 (.slice a n c) (.slice none n' c')).run Tryz.prog w = .ok (.bool a.isNone) w := fun w a n c n' c' => Lib.run_eql_slice_nil w _ 28 a n c n' c' (by kernel_rfl)
  rcases own_forms h with ⟨rfl, rfl, rfl⟩ | ⟨g, cap, rfl, hb, hg⟩
  · clear h h1
    go_enter Tryz.func56, Tryz.ntmps56
    go_wp2
    go_ret
    exact ⟨_, rfl, World.ownsRow_nil _ _ _ _, Below.refl _ _⟩
  · have HC := Lib.hid (own_cells h)
    have HL := Lib.hid h.1
    have HN := Lib.hid h1
    clear h h1
    go_enter Tryz.func56, Tryz.ntmps56
    go_wp2_with (at_builtin; refine list_appends elt_msgs _ _ rfl rfl rfl rfl (World.ownsRow_made w #[] 0 (Nat.le_refl _) (Nat.zero_le _) (by simp)) HL.out (fun j u hu => (cell_below (HC.out j u hu) (below_alloc' (Below.refl _ _) _))) HN.out (by omega) (by simp) ?_; intro v' w' hown hgrow; have HO := Lib.hid hown; have HB := Lib.hid ((below_alloc' (Below.refl _ w) _).grown hgrow (by simp) (fun k hk => Nat.le_of_eq (Option.some.inj hk))); clear hown hgrow)
    go_ret
    refine ⟨_, rfl, ?_, HB.out⟩
    have := HO.out
    rwa [List.nil_append, Nat.zero_add] at this
set_option maxRecDepth 100000 in
set_option maxHeartbeats 1000000 in
theorem state_any {Q : Nat → Prop} {w : World} {s l a b m t : Nat} {tv : Value} {h : ShL} (H : ShardAt Q w s l a b m t tv h) (g : Int) :
    Calls Tryz.prog 17 #[.pointer (some ⟨s, 0, none⟩), .int .i64 g] w fun e w' => e = .returned (.int .i64 (stN (h.st g))) ∧ w = w' := by
  obtain ⟨v, hl, hv⟩ := H.look g
  have hl := hl w rfl
  have hta := ta_aborted hv
  have htf := ta_freed hv
  have htb := ta_bound hv
  obtain ⟨y1, _, hth⟩ := ta_held hv
  obtain ⟨x0, y0, ⟨xa, xn, xc, rfl⟩, _, htp⟩ := ta_prep hv
  have e4 := cell_of_block H.z 4 (.map (some m)) rfl
  obtain ⟨so, hso⟩ : ∃ so, h.st g = so := ⟨_, rfl⟩
  rw [hso] at hta htf htb hth htp
  rw [hso]
  clear H hv hso
  rcases so with _ | st
  case none =>
    simp only [isAborted, isHeld, isFreed, isBound, isPrep] at hta htf htb hth htp
    go_enter Tryz.func17, Tryz.ntmps17
    go_wp2
    go_ret
    exact ⟨rfl, rfl⟩
  case some =>
    rcases st with n | ⟨ps, n⟩ | _ | _ | _
    all_goals
      simp only [isAborted, isHeld, isFreed, isBound, isPrep] at hta htf htb hth htp
      go_enter Tryz.func17, Tryz.ntmps17
      go_wp2
      go_ret
      exact ⟨rfl, rfl⟩
set_option maxRecDepth 100000 in
theorem splaces_any {Q : Nat → Prop} {w : World} {s l a b m t : Nat} {tv : Value} {h : ShL} (H : ShardAt Q w s l a b m t tv h) (hok : h.led.ok) (hQ : ∀ g, Q g → g < w.heap.size) (g : Int) :
    Calls Tryz.prog 20 #[.pointer (some ⟨s, 0, none⟩), .int .i64 g] w fun e w' => ∃ v, e = .returned v ∧ PlacesQ Q w' v (h.led.get g) ∧ Below w.heap.size w w' := by
  have HH := Lib.hid (And.intro H.led (And.intro hok hQ))
  have e3 := cell_of_block H.z 3 (.pointer (some ⟨l, 0, none⟩)) rfl
  clear H hok hQ
  go_enter Tryz.func20, Tryz.ntmps20
  go_wp2_with fail
  refine (lplaces_any Q w l a b h.led HH.out.1 HH.out.2.1 HH.out.2.2 g).mono ?_
  rintro e w1 ⟨v, rfl, hv, hb⟩
  have HV := Lib.hid (And.intro hv hb)
  clear hv hb
  go_wp2
  go_ret
  exact ⟨_, rfl, HV.out.1, HV.out.2⟩
set_option maxRecDepth 100000 in
set_option maxHeartbeats 1000000 in
theorem shused_any {Q : Nat → Prop} {w : World} {s l a b m t : Nat} {tv : Value} {h : ShL} (H : ShardAt Q w s l a b m t tv h) (hok : h.led.ok) (hk : h.led.taken.length ≤ 1073741824) (nm : List UInt8) {u : ByteArray} (hu : str nm = u) :
    Calls Tryz.prog 28 #[.pointer (some ⟨s, 0, none⟩), .string u] w fun e w' => e = .returned (.tuple #[.agg #[.int .i64 (h.led.cpu nm), .int .i64 (h.led.mem nm)], .int .i64 (h.led.pods nm)]) ∧ Below w.heap.size w w' := by
  have HH := Lib.hid (And.intro H hok)
  have HU := Lib.hid hu
  clear H hok hu
  go_enter Tryz.func28, Tryz.ntmps28
  go_upto_region 1 with fail
  have z1 := alloc_at w (.cells #[.int .i64 0, .int .i64 0] 58)
  have hb1 : Below w.heap.size w (w.alloc (.cells #[.int .i64 0, .int .i64 0] 58)) := below_alloc' (Below.refl _ _) _
  generalize World.alloc w _ = w1 at z1 hb1 ⊢
  have HB := Lib.hid hb1
  have HZ := Lib.hid z1
  have e3 := cell_of_block (HH.out.1.below hb1).z 3 (.pointer (some ⟨l, 0, none⟩)) rfl
  clear hb1 z1
  rw [← HU.out]
  go_wp2_with fail
  refine (lused_any Q w1 l a b h.led (HH.out.1.below HB.out).led HH.out.2 hk nm).mono ?_
  rintro e w2 ⟨rfl, hb2⟩
  have z2 := block_below HZ.out hb2
  have HB2 := Lib.hid (below_call HB.out hb2)
  have k0 := cell_of_block z2 0 _ rfl
  have k1 := cell_of_block z2 1 _ rfl
  have kf := free_of_block z2
  have HZ2 := Lib.hid z2
  obtain ⟨c, hc⟩ : ∃ c, h.led.cpu nm = c := ⟨_, rfl⟩
  obtain ⟨d, hd⟩ : ∃ c, h.led.mem nm = c := ⟨_, rfl⟩
  obtain ⟨p, hp⟩ : ∃ c, h.led.pods nm = c := ⟨_, rfl⟩
  rw [hc, hd, hp]
  have HE := Lib.hid (And.intro hc (And.intro hd hp))
  clear hb2 z2 e3 hc hd hp
  go_wp2_with fail
  have hq := set2 (.int .i64 c) (.int .i64 d) HZ2.out
  have hbq := (HB2.out.setCell (p := ⟨w.heap.size, 0, none⟩) (Nat.le_refl _) (.int .i64 c)).setCell (p := ⟨w.heap.size, 1, none⟩) (Nat.le_refl _) (.int .i64 d)
  generalize World.setCell (World.setCell w2 _ _) _ _ = y at hq hbq ⊢
  have q0 := cell_of_block hq 0 _ rfl
  have q1 := cell_of_block hq 1 _ rfl
  exact bodyPost_ret (v := .tuple #[.agg #[.int .i64 c, .int .i64 d], .int .i64 p]) (by simp [results, Tryz.results28, go_sem, q0, q1]) rfl ⟨by rw [HE.out.1, HE.out.2.1, HE.out.2.2], hbq⟩
set_option maxRecDepth 100000 in
set_option maxHeartbeats 2000000 in
theorem lgone_any (Q : Nat → Prop) (w : World) (l a b : Nat) (L : LedL) (h : LedAt Q w l a b L) (hok : L.ok) (hk : L.taken.length ≤ 1073741824) (nm : List UInt8) {u : ByteArray} (hu : str nm = u) :
    Calls Tryz.prog 77 #[.pointer (some ⟨l, 0, none⟩), .string u] w fun e w' => e = .returned (.int .i64 (L.errGone nm)) ∧ LedAt Q w' l a b (L.gone nm) ∧ Mod (fun k => k = a) w w' := by
  have HH := Lib.hid (And.intro h hok)
  have HU := Lib.hid hu
  obtain ⟨v, hl, hv⟩ := h.look_nodeS nm
  have hl := hl w rfl true
  simp only [if_true] at hl
  have hag : ∃ c0 c1 c2 a3 n3 k3 a4 n4 k4 c5, v = .agg #[.string c0, .int .i64 c1, .int .i64 c2, .slice a3 n3 k3, .slice a4 n4 k4, .bool c5] := by
    rcases hv with ⟨n, _, u, x, rfl, h1, h2⟩ | ⟨_, rfl⟩
    · obtain ⟨_, _, _, rfl⟩ := own_slice h1.1
      obtain ⟨_, _, _, rfl⟩ := own_slice h2.1
      exact ⟨_, _, _, _, _, _, _, _, _, _, rfl⟩
    · exact ⟨_, _, _, _, _, _, _, _, _, _, rfl⟩
  obtain ⟨c0, c1, c2, a3, n3, k3, a4, n4, k4, c5, rfl⟩ := hag
  have e0 := cell_of_block h.box 0 _ rfl
  obtain ⟨hs, hhs⟩ : ∃ hs, hasN L.nodes nm = hs := ⟨_, rfl⟩
  rw [hhs] at hl
  have HHS := Lib.hid hhs
  clear h hok hv hu hhs
  cases hs with
  | false =>
    have HE := Lib.hid (show L.errGone nm = 5 ∧ L.gone nm = L by unfold LedL.gone LedL.errGone; rw [if_pos HHS.out]; exact ⟨rfl, rfl⟩)
    rw [HU.out] at hl
    go_enter Tryz.func77, Tryz.ntmps77
    go_upto_region 2 with fail
    have z1 := alloc_at w (.cells #[.string c0, .int .i64 c1, .int .i64 c2, .slice a3 n3 k3, .slice a4 n4 k4, .bool c5] 60)
    have hb1 : Below w.heap.size w (w.alloc (.cells #[.string c0, .int .i64 c1, .int .i64 c2, .slice a3 n3 k3, .slice a4 n4 k4, .bool c5] 60)) := below_alloc' (Below.refl _ _) _
    generalize World.alloc w _ = w0 at z1 hb1 ⊢
    have HBW := Lib.hid hb1
    clear hb1 z1
    go_wp2
    go_ret
    exact ⟨ret_int HE.out.1.symm, by rw [HE.out.2]; exact HH.out.1.below HBW.out, Mod.of_below HBW.out⟩
  | true =>
    rw [HU.out] at hl
    obtain ⟨pp, hpp⟩ : ∃ pp, L.pods nm = pp := ⟨_, rfl⟩
    have HPP := Lib.hid hpp
    have hfl : ∀ w1, (Instr.field 156 (.agg #[.int .i64 (L.cpu nm), .int .i64 (L.mem nm), .int .i64 pp]) 1).run Tryz.prog w1 = .ok (.int .i64 pp) w1 := fun w1 => by kernel_rfl
    by_cases h0 : 0 < pp
    · have HE := Lib.hid (show L.errGone nm = 7 ∧ L.gone nm = L by unfold LedL.gone LedL.errGone; rw [HHS.out, hpp, if_pos h0]; exact ⟨rfl, rfl⟩)
      have h0' : (0 : Int) < (pp : Int) := by omega
      clear hpp
      go_enter Tryz.func77, Tryz.ntmps77
      go_upto_region 2 with fail
      have z1 := alloc_at w (.cells #[.string c0, .int .i64 c1, .int .i64 c2, .slice a3 n3 k3, .slice a4 n4 k4, .bool c5] 60)
      have hb1 : Below w.heap.size w (w.alloc (.cells #[.string c0, .int .i64 c1, .int .i64 c2, .slice a3 n3 k3, .slice a4 n4 k4, .bool c5] 60)) := below_alloc' (Below.refl _ _) _
      generalize World.alloc w _ = w0 at z1 hb1 ⊢
      have HBW := Lib.hid hb1
      clear hb1 z1
      go_wp2_with fail
      refine (used_is Q w0 l a b L (HH.out.1.below HBW.out) nm HH.out.2 hk HU.out).mono ?_
      rintro e w1 ⟨rfl, hb⟩
      have HB := Lib.hid (below_call HBW.out hb)
      rw [HPP.out]
      clear hb
      go_wp2
      go_ret
      exact ⟨ret_int HE.out.1.symm, by rw [HE.out.2]; exact HH.out.1.below HB.out, Mod.of_below HB.out⟩
    · have HE := Lib.hid (show L.errGone nm = 0 ∧ L.gone nm = { L with nodes := delN L.nodes nm } by unfold LedL.gone LedL.errGone; rw [HHS.out, hpp, if_neg h0]; exact ⟨rfl, rfl⟩)
      have h0' : ¬ (0 : Int) < (pp : Int) := by omega
      clear hpp
      go_enter Tryz.func77, Tryz.ntmps77
      go_upto_region 2 with fail
      have z1 := alloc_at w (.cells #[.string c0, .int .i64 c1, .int .i64 c2, .slice a3 n3 k3, .slice a4 n4 k4, .bool c5] 60)
      have hb1 : Below w.heap.size w (w.alloc (.cells #[.string c0, .int .i64 c1, .int .i64 c2, .slice a3 n3 k3, .slice a4 n4 k4, .bool c5] 60)) := below_alloc' (Below.refl _ _) _
      generalize World.alloc w _ = w0 at z1 hb1 ⊢
      have HBW := Lib.hid hb1
      clear hb1 z1
      go_wp2_with fail
      refine (used_is Q w0 l a b L (HH.out.1.below HBW.out) nm HH.out.2 hk HU.out).mono ?_
      rintro e w1 ⟨rfl, hb⟩
      have HB := Lib.hid (below_call HBW.out hb)
      obtain ⟨w2, hr, hL, hT⟩ := (HH.out.1.below HB.out).del_node nm 0
      have HL := Lib.hid (And.intro hL hT)
      rw [HU.out] at hr
      have k0 := cell_of_block (HH.out.1.below HB.out).box 0 _ rfl
      rw [HPP.out]
      clear hb hL hT
      go_wp2
      go_ret
      exact ⟨ret_int HE.out.1.symm, by rw [HE.out.2]; exact HL.out.1, (Mod.of_below HB.out).trans HL.out.2.mod⟩
/-- The ledger's nodes have changed. -/
theorem ShardAt.with_ledA {Q : Nat → Prop} {w w' : World} {s l a b m t : Nat} {tv : Value} {h : ShL} (H : ShardAt Q w s l a b m t tv h) {L' : LedL} (hL : LedAt Q w' l a b L') (k : Mod (fun g => g = a) w w') : ShardAt Q w' s l a b m t tv { h with led := L' } := by
  obtain ⟨⟨t1, t2, t3⟩, hv⟩ := H.apart
  obtain ⟨h1, h2, h3, ⟨cs, h4, h5, h6⟩, h7, h8, h9, h10, h11⟩ := H
  have hS : ∀ g, g < w.heap.size → g = a → Q g := fun g _ e => e ▸ h2.qa
  exact ⟨k.block' h1 fun e => h9 (e ▸ h2.qa), hL, h3.mod k hS h10.1, ⟨cs, h4.mod k t1 fun g hg e => (hv g hg).1 e, h5, h6⟩, h7, h8, h9, h10, h11⟩
theorem errPut_zero {L : LedL} {n : NodeL} (h : L.errPut n = 0) : (recN n).good ∧ n.good := by
  have hg : n.good := by
    rw [← errNd_good]
    unfold LedL.errPut at h
    split at h
    · exact absurd h (by assumption)
    · rename_i h1; simpa using h1
  exact ⟨⟨by simp [recN], fun _ => ⟨hg.1, hg.2.1, hg.2.2.1, hg.2.2.2.1, hg.2.2.2.2⟩, by simp [recN], by simp [recN], by simp [recN], by simp [recN], by simp [recN]⟩, hg⟩
theorem node_cases (h : ShL) (n : NodeL) : (h.led.errPut n = 0 → h.node n = ({ h with led := h.led.put n }.force (recN n))) ∧ (h.led.errPut n ≠ 0 → h.node n = h) := ⟨fun e => if_pos e, fun e => if_neg e⟩
set_option maxRecDepth 100000 in
set_option maxHeartbeats 2000000 in
theorem stnode_any {Q : Nat → Prop} {w : World} {s l a b m t : Nat} {tv : Value} {h : ShL} (H : ShardAt Q w s l a b m t tv h) (ht : Tabs w) (hQ : ∀ g, Q g → g < w.heap.size) (hok : h.led.ok) (hk : h.led.taken.length ≤ 1073741824) (hr : h.recs.length ≤ 1000) {v : Value} {n : NodeL} (hn : NodeQ Q w v n) (hf : n.few) :
    Calls Tryz.prog 24 #[.pointer (some ⟨s, 0, none⟩), v] w fun e w' => e = .returned (.int .i64 (h.led.errPut n)) ∧ ShPost Q w s l a b m t tv (h.node n) w' := by
  have HN := Lib.hid hn
  obtain ⟨u, x, rfl, hu, hx⟩ := hn
  have HH := Lib.hid (And.intro H (And.intro ht (And.intro hQ (And.intro hok hf))))
  obtain ⟨pe, hpe⟩ : ∃ pe, h.led.errPut n = pe := ⟨_, rfl⟩
  have HPE := Lib.hid hpe
  rw [hpe]
  obtain ⟨hc1, hc2⟩ := node_cases h n
  have HC1 := Lib.hid hc1
  have HC2 := Lib.hid hc2
  obtain ⟨sn, hsn⟩ : ∃ sn, str n.name = sn := ⟨_, rfl⟩
  obtain ⟨cn, hcn⟩ : ∃ sn, (n.cpu : Int) = sn := ⟨_, rfl⟩
  obtain ⟨mn, hmn⟩ : ∃ sn, (n.mem : Int) = sn := ⟨_, rfl⟩
  have HSN := Lib.hid (And.intro hsn (And.intro hcn hmn))
  rw [hsn, hcn, hmn] at HN
  rw [hsn, hcn, hmn]
  clear H ht hQ hok hf hu hx hpe hc1 hc2 hsn hcn hmn
  go_enter Tryz.func24, Tryz.ntmps24
  go_upto_region 1 with fail
  have z1 := alloc_at w (.cells #[.string sn, .int .i64 cn, .int .i64 mn, u, x, .bool n.closed] 60)
  have hb1 : Below w.heap.size w (w.alloc (.cells #[.string sn, .int .i64 cn, .int .i64 mn, u, x, .bool n.closed] 60)) := below_alloc' (Below.refl _ _) _
  generalize World.alloc w _ = w1 at z1 hb1 ⊢
  have hla : w.heap.size ≠ a := by have := HH.out.1.led.lt; omega
  have hf4 : ∀ w6, Mod (fun k => k = a) w1.drew w6 → w6.heap[w.heap.size]? = some (.cells #[.string sn, .int .i64 cn, .int .i64 mn, u, x, .bool n.closed] 60 (0, 0)) ∧ w6.heap[s]? = some (.cells #[.int .i64 h.me, .int .i64 h.mode, .pointer (some ⟨t, 0, none⟩), .pointer (some ⟨l, 0, none⟩), .map (some m)] 94 (0, 0)) := fun w6 hm => by
    have hqa : Q a := HH.out.1.led.qa
    exact ⟨hm.block' (w := w1.drew) z1 hla, hm.block' (w := w1.drew) (HH.out.1.below hb1).z fun e => HH.out.1.qs (e ▸ hqa)⟩
  have HF := Lib.hid hf4
  have HB := Lib.hid hb1
  clear hf4 z1 hb1
  refine' Se.wp_region_pass (fun w w' => Below w.heap.size w w') (Mod (fun k => k = a)) 7 (by kernel_rfl) (by kernel_rfl) (by kernel_rfl) (by kernel_rfl) (by kernel_rfl) (by kernel_rfl)
    (fun w => Mod.refl _ w) (fun h k => Mod.trans h k) [(fun w6 => LedAt Q w6 l a b h.led ∧ NodeQ Q w6 (.agg #[.string sn, .int .i64 cn, .int .i64 mn, u, x, .bool n.closed]) n ∧ w.heap.size ≤ w6.heap.size, 5)] [] ?_ ?_ (by simp) (fun vals => ?_)
  case refine'_2 =>
    simp only [List.forall_mem_cons]
    exact ⟨⟨HH.out.1.led.below HB.out.drew, HN.out.below HB.out.drew, HB.out.size⟩, by simp⟩
  case refine'_3 =>
    simp only [List.forall_mem_cons]
    exact ⟨fun w1 w2 k h => ⟨LedAt.below h.1 k, h.2.1.below k, Nat.le_trans h.2.2 k.size⟩, by simp⟩
  rotate_left
  simp only [List.take_succ_cons, List.take_zero, List.drop_succ_cons, List.drop_zero]
  iterate 3 (apply Se.pas_x (fun _ _ h => Mod.of_below h) rfl; (focus rfl); (focus (intro w6 hR hD hP K hK; replace hK := Lib.hid hK; skip; clear hR hD hP; go_simp; exact hK.out _ (Below.refl _ _))); simp only [Act.put, List.setIfInBounds_toArray, List.set_cons_zero, List.set_cons_succ, Nat.reduceAdd, List.cons_append, List.nil_append])
  (apply Se.pas_x (fun _ _ h => Mod.of_below h) rfl; (focus rfl); (focus (intro w6 hR hD hP K hK; replace hK := Lib.hid hK; have e0 := cell_of_block (HF.out w6 hR).2 3 (.pointer (some ⟨l, 0, none⟩)) rfl; clear hR hD hP; go_simp; exact hK.out _ (Below.refl _ _))); simp only [Act.put, List.setIfInBounds_toArray, List.set_cons_zero, List.set_cons_succ, Nat.reduceAdd, List.cons_append, List.nil_append])
  (apply Se.pas_x (fun _ _ h => Mod.of_below h) rfl; (focus rfl); (focus (intro w6 hR hD hP K hK; replace hK := Lib.hid hK; obtain ⟨e0, e1, e2, e3, e4, e5⟩ := cells6 (HF.out w6 hR).1; clear hR hD hP; go_simp; exact hK.out _ (Below.refl _ _))); simp only [Act.put, List.setIfInBounds_toArray, List.set_cons_zero, List.set_cons_succ, Nat.reduceAdd, List.cons_append, List.nil_append])
  (apply Se.pas_s (Mod (fun k => k = a)) (fun v w' => v = .int .i64 pe ∧ LedAt Q w' l a b (h.led.put n)) (fun _ _ h => h) rfl (fun v w1 w2 h k => ⟨h.1, h.2.below k⟩); (focus rfl); (focus (intro w6 hR hD hP K hK; replace hK := Lib.hid hK; have hx := hP _ (List.mem_cons_self ..) (.inl rfl); have HX := Lib.hid hx; clear hD hP hR hx; go_simp; refine (lput_any Q w6 l a b h.led HX.out.1 HH.out.2.2.2.1 hk (fun g hg => Nat.lt_of_lt_of_le (HH.out.2.2.1 g hg) HX.out.2.2) _ n HX.out.2.1 HH.out.2.2.2.2).mono ?_; rintro e w7 ⟨rfl, hL, hMd⟩; rw [HPE.out]; exact hK.out _ _ hMd ⟨rfl, hL⟩)); simp only [Act.put, List.setIfInBounds_toArray, List.set_cons_zero, List.set_cons_succ, Nat.reduceAdd, List.cons_append, List.nil_append])
  (apply Se.pas_x (e := .int .i64 pe) (fun _ _ h => Mod.of_below h) rfl; (focus rfl); (focus (intro w6 hR hD hP K hK; replace hK := Lib.hid hK; obtain ⟨er, _⟩ : vals 5 = .int .i64 pe ∧ LedAt Q w6 l a b (h.led.put n) := hD 5 (by kernel_rfl); simp only [er] at hK ⊢; clear hR hD hP er; go_simp; exact hK.out _ (Below.refl _ _))); simp only [Act.put, List.setIfInBounds_toArray, List.set_cons_zero, List.set_cons_succ, Nat.reduceAdd, List.cons_append, List.nil_append])
  refine Se.pas_ends ?_ ?_ fun w5 hR hp _ => ?_
  · simp only [Se.AllK, true_and, and_true, true_or, or_true, Nat.reduceAdd]
    done
  · simp only [Se.AllK, true_and, and_true, Nat.reduceAdd]
    intro e he
    simp only [List.mem_cons, List.not_mem_nil, or_false] at he
    subst he
    exact .inl rfl
  obtain ⟨er, hL⟩ : vals 5 = .int .i64 pe ∧ LedAt Q w5 l a b (h.led.put n) := hp 5 (by simp)
  have hm5 : Mod (fun k => k = a) w w5 := (Mod.of_below HB.out.drew).trans hR
  have h5 := HH.out.1.with_ledA hL hm5
  have HS5 := Lib.hid (And.intro h5 (Did.of_mod (b := b) (m := m) (t := t) (tv := tv) hm5 fun g hg => .inl hg))
  have HZ5 := Lib.hid (HF.out w5 hR).1
  have HT5 := Lib.hid (HH.out.2.1.mod hm5 fun g e => e ▸ HH.out.1.hi.1)
  have HN5 := Lib.hid (show NodeQ Q w5 (.agg #[.string sn, .int .i64 cn, .int .i64 mn, u, x, .bool n.closed]) n from HN.out.mod hm5 fun g _ e => e ▸ HH.out.1.led.qa)
  simp only [er]
  clear hL hm5 h5 hp hR er HF
  have hpe : h.led.errPut n = pe := HPE.out
  by_cases h0 : pe = 0
  · subst h0
    have HG := Lib.hid ((errPut_zero hpe).1)
    have HC := Lib.hid (HC1.out hpe)
    clear hpe
    obtain ⟨k0, k1, k2, k3, k4, k5⟩ := cells6 HZ5.out
    have k6 := cell_of_block HS5.out.1.z 3 (.pointer (some ⟨l, 0, none⟩)) rfl
    obtain ⟨u', x', e1, hu, hx⟩ := HN5.out
    simp only [Value.agg.injEq, Array.mk.injEq, List.cons.injEq, Value.string.injEq, Value.int.injEq, true_and, and_true] at e1
    obtain ⟨e1, e2, e3, rfl, rfl⟩ := e1
    obtain ⟨ua, un, uc, rfl⟩ := own_slice hu.1
    obtain ⟨xa, xn, xc, rfl⟩ := own_slice hx.1
    have HRV := Lib.hid (show RecV w5 (.agg #[.int .i64 1, .int .i64 0, .slice none 0 0, .slice none 0 0, .string sn, .int .i64 cn, .int .i64 mn, .slice ua un uc, .slice xa xn xc, .bool n.closed]) (recN n) from .inl ⟨n, _, _, rfl, by rw [e1, e2, e3], hu.none, hx.none⟩)
    clear hu hx e1 e2 e3
    go_wp2_with fail
    refine (force_any HS5.out.1 HT5.out HRV.out HG.out (by simp [recN]) hr).mono ?_
    rintro e w6 ⟨rfl, tv1, hS, hD⟩
    have HS6 := Lib.hid (And.intro hS (HS5.out.2.trans hD))
    clear hS hD k0 k1 k2 k3 k4 k5 k6
    go_wp2
    go_ret
    rw [HC.out]
    exact ⟨rfl, tv1, HS6.out.1, HS6.out.2⟩
  · have h00 : (pe == 0) = false := beq_eq_false_iff_ne.2 h0
    have HC := Lib.hid (HC2.out (by rw [hpe]; exact h0))
    have HPL := Lib.hid (show h.led.put n = h.led from if_neg (by rw [hpe]; exact h0))
    clear hpe h0
    go_wp2
    go_ret
    rw [HC.out]
    have := HS5.out.1
    rw [HPL.out] at this
    exact ⟨rfl, tv, this, HS5.out.2⟩
end Go.Proofs.YtofofjfmhaggmaaGreatDoor
/-! What a prepared gang's others are asked; a shard's tick. -/
set_option linter.unusedVariables false
set_option linter.unusedSimpArgs false
namespace Go.Proofs.YtofofjfmhaggmaaGreatDoor
open Go.RowKit

theorem one_bareM (l : List MsgL) : ∀ u ∈ l.flatMap bareM, u.oneCell' = true := by
  intro u hu
  obtain ⟨p, _, hp⟩ := List.mem_flatMap.1 hu
  simp only [bareM, bareC, List.mem_cons, List.not_mem_nil, or_false] at hp
  rcases hp with rfl | rfl | rfl | rfl | rfl | rfl | rfl <;> rfl
def askM (me dst g : Int) : MsgL := ⟨7, me, dst, g, [], [], false⟩
theorem asks_take {h : ShL} {g : Int} {ps : List Nat} {j : Nat} (hj : j < ps.length) : h.asks g (ps.take (j + 1)) = h.asks g (ps.take j) ++ (if (ps[j] : Int) = h.me then [] else [askM h.me ps[j] g]) := by
  unfold ShL.asks
  rw [List.take_succ_eq_append_getElem hj, List.filter_append, List.map_append, List.cons_append]
  congr 2
  by_cases e : (ps[j] : Int) = h.me <;> simp [e, askM]
theorem asks_len (h : ShL) (g : Int) (ps : List Nat) : (h.asks g ps).length ≤ ps.length + 1 := by
  unfold ShL.asks
  have := List.length_filter_le (fun k => !((Int.ofNat k) == h.me)) ps
  simp only [List.length_cons, List.length_map]
  omega
/-- What is asked of the first j peers is there. -/
def AsksR (w1 : World) (h : ShL) (g : Int) (ps : List Nat) (j : Nat) (u : Value) (wr : World) : Prop := Below w1.heap.size w1 wr ∧ MsgRow w1.heap.size wr u (h.asks g (ps.take j))
theorem asksR_snoc {w1 w2 w3 : World} {h : ShL} {g : Int} {ps : List Nat} {j : Nat} {u v : Value} {o : Obj} {x : MsgL} (hR : AsksR w1 h g ps j u w2) (hown : w3.ownsRow w1.heap.size 28 7 v ((h.asks g (ps.take j)).length + 1) ((h.asks g (ps.take j)).flatMap bareM ++ bareM x)) (hg : (w2.alloc o).grownBy w3 u.ownBlock) (e : h.asks g (ps.take (j + 1)) = h.asks g (ps.take j) ++ [x]) : AsksR w1 h g ps (j + 1) v w3 := by
  refine ⟨(below_alloc' hR.1 _).grown hg (by have := hR.1.size; simp; omega) (fun k hk => (own_lt hR.2 hk).1), ?_⟩
  rw [MsgRow, e, List.flatMap_append, List.length_append]
  simpa using hown
set_option maxRecDepth 100000 in
set_option maxHeartbeats 4000000 in
theorem asks_any {Q : Nat → Prop} {w : World} {s l a b m t : Nat} {tv : Value} {h : ShL} (H : ShardAt Q w s l a b m t tv h) (g age : Int) {pv : Value} {ps : List Nat} (hp : Rq Q w 3 1 pv ps.length (ps.map fun n : Nat => Value.int .i64 n)) (hl : ps.length ≤ 16) :
    Calls Tryz.prog 55 #[.pointer (some ⟨s, 0, none⟩), .int .i64 g, .agg #[pv, .int .i64 age]] w fun e w' => ∃ v, e = .returned v ∧ MsgRow w.heap.size w' v (h.asks g ps) ∧ Below w.heap.size w w' := by
  obtain ⟨pa, pc, rfl⟩ := own_slicen hp.1
  have HH := Lib.hid H
  have HP := Lib.hid hp
  clear H hp
  go_enter Tryz.func55, Tryz.ntmps55
  go_upto_region 1 with fail
  have z1 := alloc_at w (.cells #[.slice pa ps.length pc, .int .i64 age] 98)
  have hb1 : Below w.heap.size w (w.alloc (.cells #[.slice pa ps.length pc, .int .i64 age] 98)) := below_alloc' (Below.refl _ _) _
  generalize World.alloc w _ = w1 at z1 hb1 ⊢
  have HB := Lib.hid hb1
  have e0 := cell_of_block (HH.out.below hb1).z 0 (.int .i64 h.me) rfl
  have HZ := Lib.hid z1
  clear hb1 z1
  go_upto_region 2 with fail
  have hrow : MsgRow w.heap.size (w1.alloc (.cells ((h.asks g []).flatMap bareM).toArray 28)) (.slice (some ⟨w1.heap.size, 0, none⟩) 1 1) (h.asks g []) := ⟨rfl, .inr ⟨_, 1, _, rfl, HB.out.size, alloc_at _ _, Nat.le_refl _, by decide, rfl, rfl⟩⟩
  have hb2 : Below w1.heap.size w1 (w1.alloc (.cells ((h.asks g []).flatMap bareM).toArray 28)) := below_alloc' (Below.refl _ _) _
  have hR0 : AsksR w1 h g ps 0 (.slice (some ⟨w1.heap.size, 0, none⟩) 1 1) (w1.alloc (.cells ((h.asks g []).flatMap bareM).toArray 28)) := ⟨hb2, ⟨rfl, .inr ⟨_, 1, _, rfl, Nat.le_refl _, alloc_at _ _, Nat.le_refl _, by decide, rfl, rfl⟩⟩⟩
  have HR0 := Lib.hid hR0
  have HPW := Lib.hid (HP.out.below HB.out)
  obtain ⟨N, hN⟩ : ∃ N, ps.length = N := ⟨_, rfl⟩
  have HNN := Lib.hid hN
  have k0 := cell_below (cell_of_block HZ.out 0 _ rfl) hb2
  rw [hN] at hl k0
  rw [hN]
  clear hrow hR0 hb2 e0 hN
  change Code.wp _ _ _ _ (w1.alloc (.cells ((h.asks g []).flatMap bareM).toArray 28))
  generalize w1.alloc (.cells ((h.asks g []).flatMap bareM).toArray 28) = w2 at HR0 k0 ⊢
  go_wp2_with fail
  go_loopw [7, 20] (fun u i wr => ∃ j : Nat, i = .int .i64 j ∧ j ≤ N ∧ AsksR w1 h g ps j u wr) (fun _ i _ => N - (intOf i).toNat)
  case atStart => exact ⟨0, rfl, Nat.zero_le _, HR0.out⟩
  case round =>
    clear HR0
    obtain ⟨j, rfl, hj, hR⟩ := hrel
    have HR := Lib.hid hR
    have hbw := hR.1
    clear hR k0
    by_cases hjl : j < N
    · have HJ := Lib.hid hjl
      have hjs : j < ps.length := by rw [HNN.out]; exact hjl
      obtain ⟨p, hp⟩ : ∃ p, ps[j] = p := ⟨_, rfl⟩
      have hcell : ∃ b0, pa = some ⟨b0, 0, none⟩ ∧ wr.cell? ⟨b0, j, none⟩ = some (.int .i64 p) := by
        have hr := own_below HPW.out.1 hbw
        rcases own_forms hr with ⟨e, h0, _⟩ | ⟨b0, cap, e, _⟩
        · rw [HNN.out] at h0; omega
        · injection e with e1 e2 e3
          subst e1 e3
          refine ⟨b0, rfl, ?_⟩
          rw [hr.cellAt j (by rw [HNN.out]; omega), List.getElem?_map, List.getElem?_eq_getElem hjs, hp]
          rfl
      obtain ⟨b0, rfl, hcell⟩ := hcell
      have q0 := cell_of_block (HH.out.below (below_call HB.out hbw)).z 0 (.int .i64 h.me) rfl
      have HA := Lib.hid (asks_take (h := h) (g := g) hjs)
      rw [hp] at HA
      have hj0 : (0 : Int) ≤ (j : Int) := by omega
      have hj1 : (j : Int) < (N : Int) := by omega
      clear hbw hp
      by_cases hpm : (p : Int) = h.me
      · have hpm' : ((p : Int) == h.me) = true := by rw [hpm]; simp
        have HA2 := Lib.hid (HA.out.trans (by rw [if_pos hpm, List.append_nil]))
        have HPM := Lib.hid hpm
        clear hpm
        go_wp2
        go_roundw
        case rel => exact ⟨j + 1, by go_num, HJ.out, HR.out.1, by rw [MsgRow, HA2.out]; exact HR.out.2⟩
        case measure => have := HJ.out; simp [intOf]; omega
      · have hpm' : ((p : Int) == h.me) = false := beq_eq_false_iff_ne.2 hpm
        have HA2 := Lib.hid (HA.out.trans (by rw [if_neg hpm]))
        clear hpm
        go_wp2_with (at_builtin; refine list_appends elt_msgs _ _ rfl rfl rfl rfl (own_below HR.out.2 (below_alloc' (Below.refl _ _) _)) (news := bareM (askM h.me p g)) rfl (World.news_of_block (alloc_at _ _)) (by simp [bareM, bareC, askM, Value.oneCell']) (by have := asks_len h g (ps.take j); have := HNN.out; simp only [List.length_take] at *; omega) (by have := HR.out.1.size; simp; omega) ?_; intro v'' w'' hown hgrow; have HO := Lib.hid (And.intro hown hgrow); clear hown hgrow)
        have hnew := asksR_snoc HR.out HO.out.1 HO.out.2 HA2.out
        have HNW := Lib.hid hnew
        clear hnew
        exact ⟨⟨j + 1, by go_num, HJ.out, HNW.out⟩, by have := HJ.out; simp [intOf]; omega⟩
    · obtain rfl : j = N := by omega
      have hfull : ps.take j = ps := List.take_of_length_le (by rw [HNN.out]; exact Nat.le_refl _)
      have HFU := Lib.hid hfull
      clear hbw hfull
      go_wp2
      go_ret
      have := HR.out.2
      rw [HFU.out] at this
      exact ⟨_, rfl, own_base this HB.out.size, below_call HB.out HR.out.1⟩
end Go.Proofs.YtofofjfmhaggmaaGreatDoor
