/- Why a pod may not stand on a node, by the program. -/
import Derived.Test.YtofofjfmhaggmaaGreatDoorVi
import Derived.Test.YtofofjfmhaggmaaGreatDoorVc
import Derived.Test.YtofofjfmhaggmaaGreatDoorVe
import Derived.Test.YtofofjfmhaggmaaGreatDoorVl
set_option linter.unusedVariables false
set_option linter.unusedSimpArgs false
namespace Go.Proofs.YtofofjfmhaggmaaGreatDoor
open Go.RowKit

def PodQ (Q : Nat → Prop) (w : World) (v : Value) (p : PodL) : Prop :=
  ∃ u x, v = .agg #[.string (str p.name), .int .i64 p.shard, .int .i64 p.cpu, .int .i64 p.mem, u, x, .bool p.alone] ∧ StrsQ Q w u p.picks ∧ StrsQ Q w x p.bears
section
variable {Q Q' S : Nat → Prop} {w w' : World} {v : Value}
theorem PodQ.mod {p : PodL} (h : PodQ Q w v p) (k : Mod S w w') (hS : ∀ g, g < w.heap.size → S g → Q g) : PodQ Q w' v p := by
  obtain ⟨u, x, e, h1, h2⟩ := h
  exact ⟨u, x, e, h1.mod k hS, h2.mod k hS⟩
theorem PodQ.below {p : PodL} (h : PodQ Q w v p) (k : Below w.heap.size w w') : PodQ Q w' v p := by
  obtain ⟨u, x, e, h1, h2⟩ := h
  exact ⟨u, x, e, h1.below k, h2.below k⟩
theorem PodQ.sub {p : PodL} (h : PodQ Q w v p) (k : ∀ g, g < w.heap.size → Q' g → Q g) : PodQ Q' w v p := by
  obtain ⟨u, x, e, h1, h2⟩ := h
  exact ⟨u, x, e, h1.sub k, h2.sub k⟩
end
set_option maxRecDepth 100000 in
theorem fits_any (nc nm pc pm c m sh : Nat) (a1 a2 b1 b2 : Value) (s1 s2 : ByteArray) (f1 f2 : Bool) (h1 : c + pc ≤ 4611686018427387904) (h2 : m + pm ≤ 4611686018427387904) (w : World)
    (o1 : a1.oneCell' = true) (o2 : a2.oneCell' = true) (o3 : b1.oneCell' = true) (o4 : b2.oneCell' = true) (q : Bool) (hq : (decide (c + pc ≤ nc) && decide (m + pm ≤ nm)) = q) :
    Calls Tryz.prog 221 #[.agg #[.string s1, .int .i64 sh, .int .i64 pc, .int .i64 pm, a1, a2, .bool f1], .agg #[.string s2, .int .i64 nc, .int .i64 nm, b1, b2, .bool f2], .agg #[.int .i64 c, .int .i64 m]] w fun e w' => e = .returned (.bool q) ∧ Below w.heap.size w w' := by
  have HQ := Lib.hid hq
  clear hq
  go_enter Tryz.func221, Tryz.ntmps221
  go_wp2_with fail
  have hb0 : Below w.heap.size w (((w.alloc (.cells #[.string s1, .int .i64 sh, .int .i64 pc, .int .i64 pm, a1, a2, .bool f1] 62)).alloc (.cells #[.string s2, .int .i64 nc, .int .i64 nm, b1, b2, .bool f2] 60)).alloc (.cells #[.int .i64 c, .int .i64 m] 58)) := below_alloc' (below_alloc' (below_alloc' (Below.refl _ _) _) _) _
  have z2 := alloc_second w (.cells #[.string s1, .int .i64 sh, .int .i64 pc, .int .i64 pm, a1, a2, .bool f1] 62) (.cells #[.string s2, .int .i64 nc, .int .i64 nm, b1, b2, .bool f2] 60)
  have z2 := block_below z2 (below_alloc' (Below.refl _ _) (.cells #[.int .i64 c, .int .i64 m] 58))
  generalize World.alloc (World.alloc (World.alloc w _) _) _ = w1 at hb0 z2 ⊢
  refine (add_is c m pc pm h1 h2 _).mono ?_
  rintro e w2 ⟨rfl, hb⟩
  have hr := block_below z2 hb
  have hr' := block_below hr (below_alloc' (Below.refl _ _) (.cells #[.int .i64 ((c : Int) + (pc : Int)), .int .i64 ((m : Int) + (pm : Int))] 58))
  have k0 := cell_of_block hr' 1 (.int .i64 nc) rfl
  have k1 := cell_of_block hr' 2 (.int .i64 nm) rfl
  have HB := Lib.hid (below_call hb0 hb)
  clear hb hr hr' hb0 z2
  go_wp2_with fail
  refine (fits_ix (c + pc) (m + pm) nc nm _ _ (Int.natCast_add c pc).symm (Int.natCast_add m pm).symm q HQ.out _).mono ?_
  rintro e w3 ⟨rfl, hb⟩
  have HB2 := Lib.hid (below_call (below_alloc' HB.out _) hb)
  clear hb
  go_wp2
  go_ret
  exact ⟨rfl, HB2.out⟩
theorem whyL_1 {p : PodL} {n : NodeL} {c m : Nat} {near : List PlaceL} (h : n.closed = true) : (1 : Int) = whyL p n c m near := by simp [whyL, h]
theorem whyL_2 {p : PodL} {n : NodeL} {c m : Nat} {near : List PlaceL} (h : n.closed = false) (h2 : allW p.picks n.marks = false) : (2 : Int) = whyL p n c m near := by simp [whyL, h, h2]
theorem whyL_3 {p : PodL} {n : NodeL} {c m : Nat} {near : List PlaceL} (h : n.closed = false) (h2 : allW p.picks n.marks = true) (h3 : allW n.taints p.bears = false) : (3 : Int) = whyL p n c m near := by simp [whyL, h, h2, h3]
theorem whyL_4 {p : PodL} {n : NodeL} {c m : Nat} {near : List PlaceL} (h : n.closed = false) (h2 : allW p.picks n.marks = true) (h3 : allW n.taints p.bears = true) (h4 : (decide (c + p.cpu ≤ n.cpu) && decide (m + p.mem ≤ n.mem)) = false) : (4 : Int) = whyL p n c m near := by
  unfold whyL; rw [h, h2, h3, h4]; rfl
theorem whyL_5 {p : PodL} {n : NodeL} {c m : Nat} {near : List PlaceL} (h : n.closed = false) (h2 : allW p.picks n.marks = true) (h3 : allW n.taints p.bears = true) (h4 : (decide (c + p.cpu ≤ n.cpu) && decide (m + p.mem ≤ n.mem)) = true) (h5 : p.alone = true) (h6 : near ≠ []) : (5 : Int) = whyL p n c m near := by
  unfold whyL; rw [h, h2, h3, h4, if_pos (show p.alone = true ∧ near ≠ [] from ⟨h5, h6⟩)]; rfl
theorem whyL_6 {p : PodL} {n : NodeL} {c m : Nat} {near : List PlaceL} (h : n.closed = false) (h2 : allW p.picks n.marks = true) (h3 : allW n.taints p.bears = true) (h4 : (decide (c + p.cpu ≤ n.cpu) && decide (m + p.mem ≤ n.mem)) = true) (h5 : ¬ (p.alone = true ∧ near ≠ [])) (h6 : near.any PlaceL.alone = true) : (6 : Int) = whyL p n c m near := by
  unfold whyL; rw [h, h2, h3, h4, if_neg h5, h6]; rfl
theorem whyL_0 {p : PodL} {n : NodeL} {c m : Nat} {near : List PlaceL} (h : n.closed = false) (h2 : allW p.picks n.marks = true) (h3 : allW n.taints p.bears = true) (h4 : (decide (c + p.cpu ≤ n.cpu) && decide (m + p.mem ≤ n.mem)) = true) (h5 : ¬ (p.alone = true ∧ near ≠ [])) (h6 : near.any PlaceL.alone = false) : (0 : Int) = whyL p n c m near := by
  unfold whyL; rw [h, h2, h3, h4, if_neg h5, h6]; rfl
/-- What Why answers. -/
def WhyPost (w : World) (p : PodL) (n : NodeL) (c m : Nat) (near : List PlaceL) (e : Ending) (w' : World) : Prop := e = .returned (.int .i64 (whyL p n c m near)) ∧ Below w.heap.size w w'
/-- What Why boxes. -/
structure WhyB (B : Nat) (s1 : ByteArray) (sh pc pm : Nat) (a1 a2 : Value) (f1 : Bool) (s2 : ByteArray) (nc nm : Nat) (b1 b2 : Value) (f2 : Bool) (c m : Nat) (w : World) : Prop where
  z0 : w.heap[B]? = some (.cells #[.string s1, .int .i64 sh, .int .i64 pc, .int .i64 pm, a1, a2, .bool f1] 62 (0, 0))
  z1 : w.heap[B + 1]? = some (.cells #[.string s2, .int .i64 nc, .int .i64 nm, b1, b2, .bool f2] 60 (0, 0))
  z2 : w.heap[B + 1 + 1]? = some (.cells #[.int .i64 c, .int .i64 m] 58 (0, 0))
theorem WhyB.below {B : Nat} {s1 : ByteArray} {sh pc pm : Nat} {a1 a2 : Value} {f1 : Bool} {s2 : ByteArray} {nc nm : Nat} {b1 b2 : Value} {f2 : Bool} {c m : Nat} {w w' : World} (h : WhyB B s1 sh pc pm a1 a2 f1 s2 nc nm b1 b2 f2 c m w) (k : Below w.heap.size w w') : WhyB B s1 sh pc pm a1 a2 f1 s2 nc nm b1 b2 f2 c m w' :=
  ⟨block_below h.z0 k, block_below h.z1 k, block_below h.z2 k⟩
/-- No place so far stands alone. -/
def WhyR (w : World) (near : List PlaceL) (j : Nat) (wr : World) : Prop := Below w.heap.size w wr ∧ ∀ k (hk : k < near.length), k < j → near[k].alone = false
set_option maxRecDepth 100000 in
set_option maxHeartbeats 1000000 in
theorem why_any (Q : Nat → Prop) (w : World) (v u x : Value) (p : PodL) (n : NodeL) (c m : Nat) (near : List PlaceL) (hQ : ∀ g, Q g → g < w.heap.size) (hv : PodQ Q w v p) (hu : NodeQ Q w u n) (hx : PlacesQ Q w x near)
    (h1 : c + p.cpu ≤ 4611686018427387904) (h2 : m + p.mem ≤ 4611686018427387904) (hp1 : p.picks.length ≤ 4294967280) (hp2 : p.bears.length ≤ 4294967280) (hn1 : n.marks.length ≤ 4294967280) (hn2 : n.taints.length ≤ 4294967280) (hnl : near.length ≤ 1099511627776) :
    Calls Tryz.prog 180 #[v, u, .agg #[.int .i64 c, .int .i64 m], x] w (WhyPost w p n c m near) := by
  obtain ⟨v1, v2, rfl, hv1, hv2⟩ := hv
  obtain ⟨u1, u2, rfl, hu1, hu2⟩ := hu
  obtain ⟨va1, vc1, rfl, -⟩ := strs_cells hv1
  obtain ⟨va2, vc2, rfl, -⟩ := strs_cells hv2
  obtain ⟨ua1, uc1, rfl, -⟩ := strs_cells hu1
  obtain ⟨ua2, uc2, rfl, -⟩ := strs_cells hu2
  obtain ⟨xa, xc, rfl, hxc⟩ := flat_cells hx
  have HS := Lib.hid (And.intro (And.intro hv1 hv2) (And.intro hu1 hu2))
  have HQ := Lib.hid hQ
  have HXC := Lib.hid hxc
  clear hv1 hv2 hu1 hu2 hx hxc hQ
  obtain ⟨cl, hcl⟩ : ∃ c, n.closed = c := ⟨_, rfl⟩
  have HC := Lib.hid hcl
  rw [hcl]
  clear hcl
  go_enter Tryz.func180, Tryz.ntmps180
  go_wp2_with fail
  have hb0 : Below w.heap.size w (((w.alloc (.cells #[.string (str p.name), .int .i64 p.shard, .int .i64 p.cpu, .int .i64 p.mem, .slice va1 p.picks.length vc1, .slice va2 p.bears.length vc2, .bool p.alone] 62)).alloc (.cells #[.string (str n.name), .int .i64 n.cpu, .int .i64 n.mem, .slice ua1 n.marks.length uc1, .slice ua2 n.taints.length uc2, .bool cl] 60)).alloc (.cells #[.int .i64 c, .int .i64 m] 58)) := below_alloc' (below_alloc' (below_alloc' (Below.refl _ _) _) _) _
  have z0 := block_below (block_below (alloc_at w (.cells #[.string (str p.name), .int .i64 p.shard, .int .i64 p.cpu, .int .i64 p.mem, .slice va1 p.picks.length vc1, .slice va2 p.bears.length vc2, .bool p.alone] 62)) (below_alloc' (Below.refl _ _) (.cells #[.string (str n.name), .int .i64 n.cpu, .int .i64 n.mem, .slice ua1 n.marks.length uc1, .slice ua2 n.taints.length uc2, .bool cl] 60))) (below_alloc' (Below.refl _ _) (.cells #[.int .i64 c, .int .i64 m] 58))
  have z1 := block_below (alloc_second w (.cells #[.string (str p.name), .int .i64 p.shard, .int .i64 p.cpu, .int .i64 p.mem, .slice va1 p.picks.length vc1, .slice va2 p.bears.length vc2, .bool p.alone] 62) (.cells #[.string (str n.name), .int .i64 n.cpu, .int .i64 n.mem, .slice ua1 n.marks.length uc1, .slice ua2 n.taints.length uc2, .bool cl] 60)) (below_alloc' (Below.refl _ _) (.cells #[.int .i64 c, .int .i64 m] 58))
  have z2 := alloc_second (w.alloc (.cells #[.string (str p.name), .int .i64 p.shard, .int .i64 p.cpu, .int .i64 p.mem, .slice va1 p.picks.length vc1, .slice va2 p.bears.length vc2, .bool p.alone] 62)) (.cells #[.string (str n.name), .int .i64 n.cpu, .int .i64 n.mem, .slice ua1 n.marks.length uc1, .slice ua2 n.taints.length uc2, .bool cl] 60) (.cells #[.int .i64 c, .int .i64 m] 58)
  rw [World.size_alloc] at z2
  have hW : WhyB w.heap.size _ _ _ _ _ _ _ _ _ _ _ _ _ _ _ _ := ⟨z0, z1, z2⟩
  generalize World.alloc (World.alloc (World.alloc w _) _) _ = w3 at hb0 z0 z1 z2 hW ⊢
  have k0 := cell_of_block z1 5 (.bool cl) rfl
  have k1 := cell_of_block z0 4 (.slice va1 p.picks.length vc1) rfl
  have k2 := cell_of_block z1 3 (.slice ua1 n.marks.length uc1) rfl
  have HB0 := Lib.hid hb0
  have HW := Lib.hid hW
  clear hb0 z0 z1 z2 hW
  refine wp_scope_ahead 0 rfl ?_
  cases cl with
  | true =>
    go_wp2_with fail
    refine wp_goto (And.intro (rfl : 0 = 0) ?_)
    go_wp2
    rw [Exit.noGoto_ret]
    go_ret
    exact ⟨ret_int (whyL_1 HC.out), HB0.out⟩
  | false =>
    obtain ⟨q1, hq1⟩ : ∃ q, allW p.picks n.marks = q := ⟨_, rfl⟩
    have HA1 := Lib.hid hq1
    clear hq1
    go_wp2_with fail
    refine (markAll_is Q w3 _ _ n.marks p.picks (fun g hg => Nat.lt_of_lt_of_le (HQ.out g hg) HB0.out.size) (HS.out.2.1.below HB0.out) hn1 (HS.out.1.1.below HB0.out) hp1 q1 HA1.out).mono ?_
    rintro e w4 ⟨rfl, hb⟩
    have hW := HW.out.below hb
    have k3 := cell_of_block hW.z1 4 (.slice ua2 n.taints.length uc2) rfl
    have k4 := cell_of_block hW.z0 5 (.slice va2 p.bears.length vc2) rfl
    have HB1 := Lib.hid (below_call HB0.out hb)
    have HW1 := Lib.hid hW
    clear hb hW k0 k1 k2 HW
    cases q1 with
    | false =>
      go_wp2_with fail
      refine wp_goto (And.intro (rfl : 0 = 0) ?_)
      go_wp2
      rw [Exit.noGoto_ret]
      go_ret
      exact ⟨ret_int (whyL_2 HC.out HA1.out), HB1.out⟩
    | true =>
      obtain ⟨q2, hq2⟩ : ∃ q, allW n.taints p.bears = q := ⟨_, rfl⟩
      have HA2 := Lib.hid hq2
      clear hq2
      go_wp2_with fail
      refine (markAll_is Q w4 _ _ p.bears n.taints (fun g hg => Nat.lt_of_lt_of_le (HQ.out g hg) HB1.out.size) (HS.out.1.2.below HB1.out) hp2 (HS.out.2.2.below HB1.out) hn2 q2 HA2.out).mono ?_
      rintro e w5 ⟨rfl, hb⟩
      have hW := HW1.out.below hb
      have p0 := cell_of_block hW.z0 0 (.string (str p.name)) rfl
      have p1 := cell_of_block hW.z0 1 (.int .i64 p.shard) rfl
      have p2 := cell_of_block hW.z0 2 (.int .i64 p.cpu) rfl
      have p3 := cell_of_block hW.z0 3 (.int .i64 p.mem) rfl
      have p4 := cell_of_block hW.z0 4 (.slice va1 p.picks.length vc1) rfl
      have p5 := cell_of_block hW.z0 5 (.slice va2 p.bears.length vc2) rfl
      have p6 := cell_of_block hW.z0 6 (.bool p.alone) rfl
      have n0 := cell_of_block hW.z1 0 (.string (str n.name)) rfl
      have n1 := cell_of_block hW.z1 1 (.int .i64 n.cpu) rfl
      have n2 := cell_of_block hW.z1 2 (.int .i64 n.mem) rfl
      have n3 := cell_of_block hW.z1 3 (.slice ua1 n.marks.length uc1) rfl
      have n4 := cell_of_block hW.z1 4 (.slice ua2 n.taints.length uc2) rfl
      have n5 := cell_of_block hW.z1 5 (.bool false) rfl
      have c0 := cell_of_block hW.z2 0 (.int .i64 c) rfl
      have c1 := cell_of_block hW.z2 1 (.int .i64 m) rfl
      have HB2 := Lib.hid (below_call HB1.out hb)
      have HW2 := Lib.hid hW
      clear hb hW k3 k4 HW1
      cases q2 with
      | false =>
        go_wp2_with fail
        refine wp_goto (And.intro (rfl : 0 = 0) ?_)
        go_wp2
        rw [Exit.noGoto_ret]
        go_ret
        exact ⟨ret_int (whyL_3 HC.out HA1.out HA2.out), HB2.out⟩
      | true =>
        obtain ⟨q3, hq3⟩ : ∃ q, (decide (c + p.cpu ≤ n.cpu) && decide (m + p.mem ≤ n.mem)) = q := ⟨_, rfl⟩
        have HA3 := Lib.hid hq3
        clear hq3
        go_wp2_with fail
        refine (fits_any n.cpu n.mem p.cpu p.mem c m p.shard _ _ _ _ _ _ _ _ h1 h2 w5 rfl rfl rfl rfl q3 HA3.out).mono ?_
        rintro e w6 ⟨rfl, hb⟩
        have hW := HW2.out.below hb
        have HB3 := Lib.hid (below_call HB2.out hb)
        clear p0 p1 p2 p3 p4 p5 p6 n0 n1 n2 n3 n4 n5 c0 c1
        obtain ⟨al, hal⟩ : ∃ q, p.alone = q := ⟨_, rfl⟩
        have k6 := cell_of_block hW.z0 6 (.bool al) (by rw [← hal]; rfl)
        rw [hal]
        have HAL := Lib.hid hal
        clear hb hW HW2 hal
        cases q3 with
        | false =>
          go_wp2_with fail
          refine wp_goto (And.intro (rfl : 0 = 0) ?_)
          go_wp2
          rw [Exit.noGoto_ret]
          go_ret
          exact ⟨ret_int (whyL_4 HC.out HA1.out HA2.out HA3.out), HB3.out⟩
        | true =>
          by_cases h5 : p.alone = true ∧ near ≠ []
          · have hz : 0 < near.length := List.length_pos_iff.2 h5.2
            have hal : al = true := HAL.out.symm.trans h5.1
            subst hal
            have H5 := Lib.hid h5
            clear h5
            go_wp2_with fail
            refine wp_goto (And.intro (rfl : 0 = 0) ?_)
            go_wp2
            rw [Exit.noGoto_ret]
            go_ret
            exact ⟨ret_int (whyL_5 HC.out HA1.out HA2.out HA3.out H5.out.1 H5.out.2), HB3.out⟩
          · have hz : (match al with | true => decide (0 < near.length) | false => false) = false := by
              cases al with
              | false => rfl
              | true => exact decide_eq_false fun hk => h5 ⟨HAL.out, by rintro rfl; simp at hk⟩
            have H5 := Lib.hid h5
            clear h5
            cases al with
            | false =>
              go_wp2_with fail
              go_loopw [40] (fun i wr => ∃ j : Nat, i = .int .i64 j ∧ j ≤ near.length ∧ WhyR w6 near j wr) (fun i _ => near.length - (intOf i).toNat)
              case atStart => exact ⟨0, rfl, Nat.zero_le _, Below.refl _ _, fun k hk h => absurd h (Nat.not_lt_zero _)⟩
              case round =>
                obtain ⟨j, rfl, hj, hbr, hall⟩ := hrel
                have HA := Lib.hid hall
                clear hall
                by_cases hjl : j < near.length
                · obtain ⟨b, rfl, hbw, hcap, d0, d1, d2, d3, d4⟩ := HXC.out j hjl
                  have HBR := Lib.hid (below_call HB3.out hbr)
                  have d0 := cell_below d0 HBR.out
                  have d1 := cell_below d1 HBR.out
                  have d2 := cell_below d2 HBR.out
                  have d3 := cell_below d3 HBR.out
                  have d4 := cell_below d4 HBR.out
                  have hj0 : (0 : Int) ≤ (j : Int) := by omega
                  have hj1 : (j : Int) < (near.length : Int) := by omega
                  have HJ := Lib.hid hjl
                  have HB6 := Lib.hid hbr
                  generalize hgx : near[j] = x at d0 d1 d2 d3 d4
                  obtain ⟨al2, hal2⟩ : ∃ q, x.alone = q := ⟨_, rfl⟩
                  rw [hal2] at d4
                  have HY := Lib.hid (show near[j].alone = al2 by rw [hgx]; exact hal2)
                  clear hal2 hbr hgx
                  cases al2 with
                  | true =>
                    go_wp2_with fail
                    refine wp_goto (And.intro (rfl : 0 = 0) ?_)
                    go_wp2
                    rw [Exit.noGoto_ret]
                    go_ret
                    exact ⟨ret_int (whyL_6 HC.out HA1.out HA2.out HA3.out H5.out (List.any_eq_true.2 ⟨_, List.getElem_mem HJ.out, HY.out⟩)), (by first | exact HBR.out | exact below_alloc' HBR.out _)⟩
                  | false =>
                    go_wp2
                    go_roundw
                    case rel =>
                      refine ⟨j + 1, by go_num, HJ.out, ?_, fun k hk hkj => ?_⟩
                      · exact below_alloc' HB6.out _
                      · by_cases e : k = j
                        · subst e; exact HY.out
                        · exact HA.out k hk (by omega)
                    case measure => have := HJ.out; simp [intOf]; omega
                · obtain rfl : j = near.length := by omega
                  have HBR := Lib.hid (below_call HB3.out hbr)
                  have HN := Lib.hid (show near.any PlaceL.alone = false from Bool.eq_false_iff.2 fun h => by
                    obtain ⟨x, hx, hy⟩ := List.any_eq_true.1 h
                    obtain ⟨k, hk, rfl⟩ := List.getElem_of_mem hx
                    rw [HA.out k hk hk] at hy
                    cases hy)
                  clear hbr HA
                  go_wp2_with fail
                  go_step3
                  go_wp2
                  rw [Exit_jump_ret]
                  go_ret
                  exact ⟨ret_int (whyL_0 HC.out HA1.out HA2.out HA3.out H5.out HN.out), HBR.out⟩
            | true =>
              go_wp2_with fail
              go_loopw [40] (fun i wr => ∃ j : Nat, i = .int .i64 j ∧ j ≤ near.length ∧ WhyR w6 near j wr) (fun i _ => near.length - (intOf i).toNat)
              case atStart => exact ⟨0, rfl, Nat.zero_le _, Below.refl _ _, fun k hk h => absurd h (Nat.not_lt_zero _)⟩
              case round =>
                obtain ⟨j, rfl, hj, hbr, hall⟩ := hrel
                have HA := Lib.hid hall
                clear hall
                by_cases hjl : j < near.length
                · obtain ⟨b, rfl, hbw, hcap, d0, d1, d2, d3, d4⟩ := HXC.out j hjl
                  have HBR := Lib.hid (below_call HB3.out hbr)
                  have d0 := cell_below d0 HBR.out
                  have d1 := cell_below d1 HBR.out
                  have d2 := cell_below d2 HBR.out
                  have d3 := cell_below d3 HBR.out
                  have d4 := cell_below d4 HBR.out
                  have hj0 : (0 : Int) ≤ (j : Int) := by omega
                  have hj1 : (j : Int) < (near.length : Int) := by omega
                  have HJ := Lib.hid hjl
                  have HB6 := Lib.hid hbr
                  generalize hgx : near[j] = x at d0 d1 d2 d3 d4
                  obtain ⟨al2, hal2⟩ : ∃ q, x.alone = q := ⟨_, rfl⟩
                  rw [hal2] at d4
                  have HY := Lib.hid (show near[j].alone = al2 by rw [hgx]; exact hal2)
                  clear hal2 hbr hgx
                  cases al2 with
                  | true =>
                    go_wp2_with fail
                    refine wp_goto (And.intro (rfl : 0 = 0) ?_)
                    go_wp2
                    rw [Exit.noGoto_ret]
                    go_ret
                    exact ⟨ret_int (whyL_6 HC.out HA1.out HA2.out HA3.out H5.out (List.any_eq_true.2 ⟨_, List.getElem_mem HJ.out, HY.out⟩)), (by first | exact HBR.out | exact below_alloc' HBR.out _)⟩
                  | false =>
                    go_wp2
                    go_roundw
                    case rel =>
                      refine ⟨j + 1, by go_num, HJ.out, ?_, fun k hk hkj => ?_⟩
                      · exact below_alloc' HB6.out _
                      · by_cases e : k = j
                        · subst e; exact HY.out
                        · exact HA.out k hk (by omega)
                    case measure => have := HJ.out; simp [intOf]; omega
                · obtain rfl : j = near.length := by omega
                  have HBR := Lib.hid (below_call HB3.out hbr)
                  have HN := Lib.hid (show near.any PlaceL.alone = false from Bool.eq_false_iff.2 fun h => by
                    obtain ⟨x, hx, hy⟩ := List.any_eq_true.1 h
                    obtain ⟨k, hk, rfl⟩ := List.getElem_of_mem hx
                    rw [HA.out k hk hk] at hy
                    cases hy)
                  clear hbr HA
                  go_wp2_with fail
                  go_step3
                  go_wp2
                  rw [Exit_jump_ret]
                  go_ret
                  exact ⟨ret_int (whyL_0 HC.out HA1.out HA2.out HA3.out H5.out HN.out), HBR.out⟩
end Go.Proofs.YtofofjfmhaggmaaGreatDoor
