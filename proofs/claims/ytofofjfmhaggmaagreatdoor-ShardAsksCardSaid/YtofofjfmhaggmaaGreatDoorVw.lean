/- Where a pod goes, by the program. -/
import Derived.Test.YtofofjfmhaggmaaGreatDoorVu
set_option linter.unusedVariables false
set_option linter.unusedSimpArgs false
namespace Go.Proofs.YtofofjfmhaggmaaGreatDoor
open Go.RowKit

/-- Nothing below block N changes, nor do blocks a and b. -/
def LowK (N a b : Nat) (w w' : World) : Prop := LowB N w w' ∧ ∀ k, k = a ∨ k = b → k < w.heap.size → w'.heap[k]? = w.heap[k]?
section
variable {N a b : Nat}
theorem LowK.refl (w : World) : LowK N a b w w := ⟨LowB.refl _ _, fun _ _ _ => rfl⟩
theorem LowK.trans {x y z : World} (h : LowK N a b x y) (k : LowK N a b y z) : LowK N a b x z :=
  ⟨h.1.trans k.1, fun i hi hx => by
    have e := h.2 i hi hx
    rw [← e]
    refine k.2 i hi ?_
    rw [Array.getElem?_eq_getElem hx] at e
    exact (Array.getElem?_eq_some_iff.1 e).1⟩
theorem LowK.of_below {w w' : World} (h : Below w.heap.size w w') : LowK N a b w w' := ⟨LowB.of_below h, fun k _ hk => h.block k hk⟩
theorem LowK.of_gr {row : Option Nat} {w w' : World} (hr : ∀ g, row = some g → N ≤ g ∧ g ≠ a ∧ g ≠ b) (h : w.grownBy w' row) : LowK N a b w w' :=
  ⟨Aq.LowB.of_gr (fun g hg => (hr g hg).1) h, fun k hk hx => h.block k hx (fun e => by
    have := hr k (by first | exact e | exact e.symm)
    omega)⟩
end
/-- What place hands back. -/
def placeE : Option PlaceL → Value
  | none => .tuple #[.agg #[.string ⟨#[]⟩, .string ⟨#[]⟩, .int .i64 0, .int .i64 0, .bool false], .bool false]
  | some x => .tuple #[.agg #[.string (str x.pod), .string (str x.node), .int .i64 x.cpu, .int .i64 x.mem, .bool x.alone], .bool true]
/-- What place has gathered. -/
structure PlaceR (w w1 : World) (L : LedL) (mode : Int) (own : List PlaceL) (p : PodL) (cs : List NodeL) (u v : Value) (wr : World) : Prop where
  bl : Below (w.heap.size + 1 + 1) w1 wr
  names : wr.ownsRow (w.heap.size + 1 + 1) 9 1 u cs.length (cs.map fun n => Value.string (str n.name))
  scores : wr.ownsRow (w.heap.size + 1 + 1) 3 1 v cs.length (cs.map fun n => Value.int .i64 (scoreN L mode own p n))
theorem sused_is (Q : Nat → Prop) (w : World) (S l a b : Nat) (L : LedL) (v : Value) (own : List PlaceL) (hz : w.heap[S]? = some (.cells #[.pointer (some ⟨l, 0, none⟩), v] 173 (0, 0))) (hv : PlacesQ (fun _ => False) w v own)
    (h : LedAt Q w l a b L) (hok : L.ok) (hk : L.taken.length ≤ 1073741824) (hl : own.length ≤ 8) (hc : ∀ x ∈ own, x.cpu ≤ 1099511627776 ∧ x.mem ≤ 1099511627776)
    (n : NodeL) (s : ByteArray) (hs : str n.name = s) (c0 m0 : Int) (a1 a2 : Value) (f : Bool) (c m k : Nat) (hc' : ucpu L own n = c) (hm' : umem L own n = m) (hk' : upods L own n = k) :
    Calls Tryz.prog 300 #[.pointer (some ⟨S, 0, none⟩), .agg #[.string s, .int .i64 c0, .int .i64 m0, a1, a2, .bool f]] w fun e w' =>
      e = .returned (.tuple #[.agg #[.int .i64 c, .int .i64 m], .int .i64 k]) ∧ Below w.heap.size w w' := by
  subst hc' hm' hk' hs
  exact sused_any Q w S l a b L v own hz hv h hok hk hl hc n.name c0 m0 a1 a2 f
theorem near_is (w : World) (S : Nat) (ptr v : Value) (own : List PlaceL) (hz : w.heap[S]? = some (.cells #[ptr, v] 173 (0, 0))) (hv : PlacesQ (fun _ => False) w v own) (hl : own.length ≤ 1073741824)
    (nm : List UInt8) (s : ByteArray) (hs : str nm = s) (c m : Int) (a1 a2 : Value) (f : Bool) :
    Calls Tryz.prog 299 #[.pointer (some ⟨S, 0, none⟩), .agg #[.string s, .int .i64 c, .int .i64 m, a1, a2, .bool f]] w (NearPost w nm own) := by
  subst hs
  exact near_any w S ptr v own hz hv hl nm c m a1 a2 f
/-- What Why reads, and what it is to answer. -/
theorem why_is (Q : Nat → Prop) (w : World) (v u x : Value) (p : PodL) (n : NodeL) (c m : Nat) (near : List PlaceL) (hQ : ∀ g, Q g → g < w.heap.size) (hv : PodQ Q w v p) (hu : NodeQ Q w u n) (hx : PlacesQ Q w x near)
    (h1 : c + p.cpu ≤ 4611686018427387904) (h2 : m + p.mem ≤ 4611686018427387904) (hp1 : p.picks.length ≤ 4294967280) (hp2 : p.bears.length ≤ 4294967280) (hn1 : n.marks.length ≤ 4294967280) (hn2 : n.taints.length ≤ 4294967280) (hnl : near.length ≤ 1099511627776) (y : Int) (hy : whyL p n c m near = y) :
    Calls Tryz.prog 180 #[v, u, .agg #[.int .i64 c, .int .i64 m], x] w fun e w' => e = .returned (.int .i64 y) ∧ Below w.heap.size w w' := by
  subst hy
  exact why_any Q w v u x p n c m near hQ hv hu hx h1 h2 hp1 hp2 hn1 hn2 hnl
set_option maxRecDepth 100000 in
set_option maxHeartbeats 4000000 in
theorem place_any (Q : Nat → Prop) (w : World) (S l a b : Nat) (L : LedL) (v nv pv : Value) (own : List PlaceL) (p : PodL) (mode : Int) (hT : Tops w) (hQ : ∀ g, Q g → g < w.heap.size)
    (hz : w.heap[S]? = some (.cells #[.pointer (some ⟨l, 0, none⟩), v] 173 (0, 0))) (hv : PlacesQ (fun _ => False) w v own)
    (h : LedAt Q w l a b L) (hok : L.ok) (hk : L.taken.length ≤ 1073741824) (hl : own.length ≤ 8) (hc : ∀ x ∈ own, x.cpu ≤ 1099511627776 ∧ x.mem ≤ 1099511627776)
    (hn : NodesQ Q w nv L.sorted) (hp : PodQ Q w pv p) (hp1 : p.cpu ≤ 1099511627776) (hp2 : p.mem ≤ 1099511627776) (hp3 : p.picks.length ≤ 4294967280) (hp4 : p.bears.length ≤ 4294967280) :
    Calls Tryz.prog 124 #[pv, nv, .iface 171 (.pointer (some ⟨S, 0, none⟩)), .int .i64 mode] w fun e w' => e = .returned (placeE (placeL L mode own p)) ∧ Below w.heap.size w w' := by
  obtain ⟨pu, px, rfl, hpu, hpx⟩ := hp
  obtain ⟨ua, uc, rfl, -⟩ := strs_cells hpu
  obtain ⟨xa, xc, rfl, -⟩ := strs_cells hpx
  obtain ⟨na, nc, rfl, hnc⟩ := nodes_at hn
  have H := Lib.hid (And.intro h (And.intro hz hv))
  have HOK := Lib.hid hok
  have HC := Lib.hid hc
  have HQ := Lib.hid hQ
  have HT := Lib.hid hT
  have HP := Lib.hid (And.intro hpu hpx)
  have HN := Lib.hid hnc
  have h8 : L.sorted.length ≤ 8 := by rw [LedL.sorted, (isort_perm _).length_eq]; exact hok.most
  obtain ⟨N, hN⟩ : ∃ N, L.sorted.length = N := ⟨_, rfl⟩
  have HNN := Lib.hid hN
  rw [hN] at h8
  clear h hz hv hok hc hQ hT hpu hpx hnc hn
  rw [hN]
  clear hN
  have hm1 : ∀ n w, (method (n + 1) 171 (.pointer (some ⟨S, 0, none⟩)) "joinery/pack.used").run Tryz.prog w = .ok (300, .pointer (some ⟨S, 0, none⟩)) w := fun n w => by kernel_rfl
  have hm2 : ∀ n w, (method (n + 1) 171 (.pointer (some ⟨S, 0, none⟩)) "joinery/pack.near").run Tryz.prog w = .ok (299, .pointer (some ⟨S, 0, none⟩)) w := fun n w => by kernel_rfl
  go_enter Tryz.func124, Tryz.ntmps124
  go_wp2_with fail
  have z0 := block_below (alloc_at w (.cells #[.string (str p.name), .int .i64 p.shard, .int .i64 p.cpu, .int .i64 p.mem, .slice ua p.picks.length uc, .slice xa p.bears.length xc, .bool p.alone] 62)) (below_alloc' (Below.refl _ _) (.cells #[.string ⟨#[]⟩, .string ⟨#[]⟩, .int .i64 0, .int .i64 0, .bool false] 143))
  have z1 := alloc_second w (.cells #[.string (str p.name), .int .i64 p.shard, .int .i64 p.cpu, .int .i64 p.mem, .slice ua p.picks.length uc, .slice xa p.bears.length xc, .bool p.alone] 62) (.cells #[.string ⟨#[]⟩, .string ⟨#[]⟩, .int .i64 0, .int .i64 0, .bool false] 143)
  have hb0 : Below w.heap.size w ((w.alloc (.cells #[.string (str p.name), .int .i64 p.shard, .int .i64 p.cpu, .int .i64 p.mem, .slice ua p.picks.length uc, .slice xa p.bears.length xc, .bool p.alone] 62)).alloc (.cells #[.string ⟨#[]⟩, .string ⟨#[]⟩, .int .i64 0, .int .i64 0, .bool false] 143)) := below_alloc' (below_alloc' (Below.refl _ _) _) _
  have hs0 : ((w.alloc (.cells #[.string (str p.name), .int .i64 p.shard, .int .i64 p.cpu, .int .i64 p.mem, .slice ua p.picks.length uc, .slice xa p.bears.length xc, .bool p.alone] 62)).alloc (.cells #[.string ⟨#[]⟩, .string ⟨#[]⟩, .int .i64 0, .int .i64 0, .bool false] 143)).heap.size = w.heap.size + 1 + 1 := by rw [World.size_alloc, World.size_alloc]
  generalize World.alloc (World.alloc w _) _ = w1 at z0 z1 hb0 hs0 ⊢
  have HZ0 := Lib.hid z0
  have HZ1 := Lib.hid z1
  have HB0 := Lib.hid hb0
  have HS0 := Lib.hid hs0
  clear z0 z1 hb0 hs0
  go_loopw [10, 11, 19] (fun u v i wr => ∃ j : Nat, i = .int .i64 j ∧ j ≤ N ∧ PlaceR w w1 L mode own p (candL L own p (L.sorted.take j)) u v wr) (fun _ _ i _ => N - (intOf i).toNat)
  case atStart => exact ⟨0, rfl, Nat.zero_le _, ⟨Below.refl _ _, World.ownsRow_nil _ _ _ _, World.ownsRow_nil _ _ _ _⟩⟩
  case round =>
    obtain ⟨j, rfl, hj, hR⟩ := hrel
    have HR := Lib.hid hR
    clear hR
    have hB1 : Below w1.heap.size w1 wr := HR.out.bl.mono (by rw [HS0.out]; omega)
    have HB1 := Lib.hid (below_call HB0.out hB1)
    have HZR := Lib.hid (block_below HZ0.out hB1)
    by_cases hjl : j < N
    · have hjs : j < L.sorted.length := by rw [HNN.out]; exact hjl
      obtain ⟨b0, nu, nx, rfl, hbw, hcap, d0, d1, d2, d3, d4, d5, hnu, hnx⟩ := HN.out j hjs
      have d0 := cell_below d0 HB1.out
      have d1 := cell_below d1 HB1.out
      have d2 := cell_below d2 HB1.out
      have d3 := cell_below d3 HB1.out
      have d4 := cell_below d4 HB1.out
      have d5 := cell_below d5 HB1.out
      have hnu := hnu.below HB1.out
      have hnx := hnx.below HB1.out
      have hgood := HOK.out.good L.sorted[j] ((isort_perm _).subset (List.getElem_mem hjs))
      have hcl := @candL_take L own p L.sorted j _ hjs rfl
      generalize hgx : L.sorted[j] = n at d0 d1 d2 d3 d4 d5 hnu hnx hgood hcl
      obtain ⟨nua, nuc, rfl, -⟩ := strs_cells hnu
      obtain ⟨nxa, nxc, rfl, -⟩ := strs_cells hnx
      obtain ⟨s, hs⟩ : ∃ s, str n.name = s := ⟨_, rfl⟩
      rw [hs] at d0
      obtain ⟨cu, hcu⟩ : ∃ x, ucpu L own n = x := ⟨_, rfl⟩
      obtain ⟨mu, hmu⟩ : ∃ x, umem L own n = x := ⟨_, rfl⟩
      obtain ⟨ku, hku⟩ : ∃ x, upods L own n = x := ⟨_, rfl⟩
      have HU := Lib.hid (And.intro hcu (And.intro hmu hku))
      have HSTR := Lib.hid (And.intro hnu hnx)
      have HG := Lib.hid hgood
      have HCL := Lib.hid hcl
      have HS := Lib.hid hs
      have hj0 : (0 : Int) ≤ (j : Int) := by omega
      have hj1 : (j : Int) < (N : Int) := by omega
      have HJ := Lib.hid hjl
      clear hcu hmu hku hnu hnx hgood hcl hs hB1 hgx
      go_wp2_with fail
      have hb2 : Below w.heap.size w (wr.alloc (.cells #[.string s, .int .i64 n.cpu, .int .i64 n.mem, .slice nua n.marks.length nuc, .slice nxa n.taints.length nxc, .bool n.closed] 60)) := below_alloc' HB1.out _
      have zn := alloc_at wr (.cells #[.string s, .int .i64 n.cpu, .int .i64 n.mem, .slice nua n.marks.length nuc, .slice nxa n.taints.length nxc, .bool n.closed] 60)
      have hB3 : Below wr.heap.size wr (wr.alloc (.cells #[.string s, .int .i64 n.cpu, .int .i64 n.mem, .slice nua n.marks.length nuc, .slice nxa n.taints.length nxc, .bool n.closed] 60)) := below_alloc' (Below.refl _ _) _
      generalize World.alloc wr _ = w2 at hb2 zn hB3 ⊢
      refine (sused_is Q w2 S l a b L v own (block_below H.out.2.1 hb2) (Rq.below H.out.2.2 hb2) (H.out.1.below hb2) HOK.out hk hl HC.out n s HS.out _ _ _ _ _ cu mu ku HU.out.1 HU.out.2.1 HU.out.2.2).mono ?_
      rintro e w3 ⟨rfl, hb⟩
      have HB3 := Lib.hid (below_call hB3 hb)
      have HZN := Lib.hid (block_below zn hb)
      clear hb2 zn hB3 hb d0 d1 d2 d3 d4 d5
      go_upto_region 7 with fail
      have z4 := alloc_at w3 (.cells #[.int .i64 cu, .int .i64 mu] 58)
      have hb4 : Below w3.heap.size w3 (w3.alloc (.cells #[.int .i64 cu, .int .i64 mu] 58)) := below_alloc' (Below.refl _ _) _
      generalize World.alloc w3 _ = w4 at z4 hb4 ⊢
      have hbW := below_call HB1.out (below_call HB3.out hb4)
      have hfacts : ∀ w6, Below w4.heap.size w4.drew w6 → w6.heap[w.heap.size]? = some (.cells #[.string (str p.name), .int .i64 p.shard, .int .i64 p.cpu, .int .i64 p.mem, .slice ua p.picks.length uc, .slice xa p.bears.length xc, .bool p.alone] 62 (0, 0)) ∧
          w6.heap[wr.heap.size]? = some (.cells #[.string s, .int .i64 n.cpu, .int .i64 n.mem, .slice nua n.marks.length nuc, .slice nxa n.taints.length nxc, .bool n.closed] 60 (0, 0)) ∧
          w6.heap[w3.heap.size]? = some (.cells #[.int .i64 cu, .int .i64 mu] 58 (0, 0)) ∧ Below wr.heap.size wr w6 := fun w6 hb => by
        have hb' : Below w4.heap.size w4 w6 := (Below.refl w4.heap.size w4).drew.trans hb
        have k3 := below_call hb4 hb'
        exact ⟨block_below HZR.out (below_call HB3.out k3), block_below HZN.out k3, block_below z4 hb', below_call HB3.out k3⟩
      have HF := Lib.hid hfacts
      have HBW := Lib.hid hbW
      clear hfacts z4 hbW
      obtain ⟨y, hy⟩ : ∃ y, whyL p n cu mu (onP n.name own) = y := ⟨_, rfl⟩
      have hyp := whyL_pos p n cu mu (onP n.name own)
      rw [hy] at hyp
      have HY := Lib.hid hy
      have hcu : cu ≤ 4611686018427387904 - 1099511627776 ∧ mu ≤ 4611686018427387904 - 1099511627776 := by
        have h1 := LedL.cpu_le HOK.out n.name
        have h2 := sums_le 1099511627776 (onP n.name own) (fun x hx => HC.out x (List.mem_filter.1 hx).1)
        have h3 := onP_len_le n.name own
        rw [← HU.out.1, ← HU.out.2.1]
        unfold ucpu umem
        omega
      have HCU := Lib.hid hcu
      have HMK := Lib.hid (show n.marks.length ≤ 4294967280 ∧ n.taints.length ≤ 4294967280 by
        have h1 := (setB_few HG.out.2.2.2.1).1
        have h2 := (setB_few HG.out.2.2.2.2).1
        omega)
      clear hy hcu
      refine' Par.wp_region_pars (fun w w' => Below w.heap.size w w') 8 (by kernel_rfl) (by kernel_rfl) (by kernel_rfl) (by kernel_rfl) (by kernel_rfl) (by kernel_rfl)
        (fun w => Below.refl _ w) (fun h k => below_call h k) (fun vals => ?_)
      rotate_left
      simp only [List.take_succ_cons, List.take_zero, List.drop_succ_cons, List.drop_zero]
      (apply Par.par_x rfl; (focus (intro w6 hR hD K hK; replace hK := Lib.hid hK; obtain ⟨e0, e1, e2, e3, e4, e5, e6⟩ := cells7 (HF.out w6 hR).1; clear hR hD; go_simp; exact hK.out _ (Below.refl _ _))); simp only [Act.put, List.setIfInBounds_toArray, List.set_cons_zero, List.set_cons_succ, Nat.reduceAdd, List.cons_append, List.nil_append])
      (apply Par.par_x rfl; (focus (intro w6 hR hD K hK; replace hK := Lib.hid hK; obtain ⟨e0, e1, e2, e3, e4, e5⟩ := cells6 (HF.out w6 hR).2.1; clear hR hD; go_simp; exact hK.out _ (Below.refl _ _))); simp only [Act.put, List.setIfInBounds_toArray, List.set_cons_zero, List.set_cons_succ, Nat.reduceAdd, List.cons_append, List.nil_append])
      (apply Par.par_x rfl; (focus (intro w6 hR hD K hK; replace hK := Lib.hid hK; obtain ⟨e0, e1⟩ := cells2 (HF.out w6 hR).2.2.1; clear hR hD; go_simp; exact hK.out _ (Below.refl _ _))); simp only [Act.put, List.setIfInBounds_toArray, List.set_cons_zero, List.set_cons_succ, Nat.reduceAdd, List.cons_append, List.nil_append])
      (apply Par.par_x rfl; (focus (intro w6 hR hD K hK; replace hK := Lib.hid hK; skip; clear hR hD; go_simp; exact hK.out _ (Below.refl _ _))); simp only [Act.put, List.setIfInBounds_toArray, List.set_cons_zero, List.set_cons_succ, Nat.reduceAdd, List.cons_append, List.nil_append])
      (apply Par.par_x rfl; (focus (intro w6 hR hD K hK; replace hK := Lib.hid hK; obtain ⟨e0, e1, e2, e3, e4, e5⟩ := cells6 (HF.out w6 hR).2.1; clear hR hD; go_simp; exact hK.out _ (Below.refl _ _))); simp only [Act.put, List.setIfInBounds_toArray, List.set_cons_zero, List.set_cons_succ, Nat.reduceAdd, List.cons_append, List.nil_append])
      (apply Par.par_r (fun v w' => w'.ownsRow w.heap.size 143 5 v (onP n.name own).length ((onP n.name own).flatMap placeV)) rfl (fun v w1 w2 h k => own_below h k); (focus (intro w6 hR hD K hK; replace hK := Lib.hid hK; have HBX := Lib.hid (below_call HB1.out (HF.out w6 hR).2.2.2); clear hR hD; go_simp; refine (near_is w6 S _ v own (block_below H.out.2.1 HBX.out) (Rq.below H.out.2.2 HBX.out) (by omega) n.name s HS.out _ _ _ _ _).mono ?_; rintro e w7 ⟨r, rfl, hr, hb⟩; exact hK.out _ _ hb (own_base hr HBX.out.size))); simp only [Act.put, List.setIfInBounds_toArray, List.set_cons_zero, List.set_cons_succ, Nat.reduceAdd, List.cons_append, List.nil_append])
      (apply Par.par_x rfl; (focus (intro w6 hR hD K hK; replace hK := Lib.hid hK; have h5 : w6.ownsRow w.heap.size 143 5 (vals 5) (onP n.name own).length ((onP n.name own).flatMap placeV) := hD 5 (by kernel_rfl); have H5 := Lib.hid h5; have hfx := (HF.out w6 hR).2.2.2; have HBX := Lib.hid (And.intro hfx (below_call HB1.out hfx)); clear hR hD h5 hfx; go_simp; refine (why_is Q w6 _ _ (vals 5) p n cu mu (onP n.name own) (fun g hg => Nat.lt_of_lt_of_le (HQ.out g hg) HBX.out.2.size) ⟨_, _, rfl, HP.out.1.below HBX.out.2, HP.out.2.below HBX.out.2⟩ ⟨_, _, by rw [HS.out], HSTR.out.1.below HBX.out.1, HSTR.out.2.below HBX.out.1⟩ (Rq.new H5.out HQ.out) (by have := HCU.out; omega) (by have := HCU.out; omega) hp3 hp4 HMK.out.1 HMK.out.2 (by have := onP_len_le n.name own; omega) y HY.out).mono ?_; rintro e w7 ⟨rfl, hb⟩; exact hK.out _ hb)); simp only [Act.put, List.setIfInBounds_toArray, List.set_cons_zero, List.set_cons_succ, Nat.reduceAdd, List.cons_append, List.nil_append])
      (apply Par.par_x rfl; (focus (intro w6 hR hD K hK; replace hK := Lib.hid hK; skip; clear hR hD; go_simp; exact hK.out _ (Below.refl _ _))); simp only [Act.put, List.setIfInBounds_toArray, List.set_cons_zero, List.set_cons_succ, Nat.reduceAdd, List.cons_append, List.nil_append])
      refine Par.par_end fun w5 hR hp => ?_
      clear hp
      have HF5 := Lib.hid (HF.out w5 hR)
      have HB5 := Lib.hid (below_call HB1.out HF5.out.2.2.2)
      clear hR HF
      by_cases hy0 : y = 0
      · subst hy0
        go_upto_region 8 with fail
        obtain ⟨cs, hcs⟩ : ∃ cs, candL L own p (L.sorted.take j) = cs := ⟨_, rfl⟩
        have hrr := HR.out
        rw [hcs] at hrr
        have hcl : cs.length ≤ 8 := by rw [← hcs]; refine Nat.le_trans (candL_len _ _ _ _) ?_; rw [List.length_take]; omega
        have hwr : w.heap.size + 1 + 1 ≤ wr.heap.size := by have := hrr.bl.size; rw [HS0.out] at this; exact this
        have hb5 := HF5.out.2.2.2
        have hw3 : wr.heap.size ≤ w3.heap.size := HB3.out.size
        have hw5 : w3.heap.size < w5.heap.size := (Array.getElem?_eq_some_iff.1 HF5.out.2.2.1).1
        have HRN := Lib.hid (own_below hrr.names hb5)
        have HRS := Lib.hid (own_below hrr.scores hb5)
        have HL10 := Lib.hid (fun g (h : Value.ownBlock u10 = some g) => (show w.heap.size + 1 + 1 ≤ g ∧ g ≠ wr.heap.size ∧ g ≠ w3.heap.size by have := own_lt hrr.names h; omega))
        have HL11 := Lib.hid (fun g (h : Value.ownBlock u11 = some g) => (show w.heap.size + 1 + 1 ≤ g ∧ g ≠ wr.heap.size ∧ g ≠ w3.heap.size by have := own_lt hrr.scores h; omega))
        have HT10 := Lib.hid (fun g (h : Value.ownBlock u11 = some g) => (show g < w5.heap.size by have := own_lt hrr.scores h; omega))
        have HNE := Lib.hid (own_type_ne HRS.out HRN.out (by decide))
        have HNE2 := Lib.hid (own_type_ne HRN.out HRS.out (by decide))
        obtain ⟨sc, hsc⟩ : ∃ sc, scoreN L mode own p n = sc := ⟨_, rfl⟩
        have hsc' : scoreF mode (leftF n.cpu n.mem cu mu p.cpu p.mem) ku = sc := by rw [← hsc]; unfold scoreN; rw [HU.out.1, HU.out.2.1, HU.out.2.2]
        have HSC := Lib.hid (And.intro hsc hsc')
        have hN5 : w.heap.size + 1 + 1 ≤ w5.drew.heap.size := Nat.le_trans hwr hb5.size
        have HN5 := Lib.hid hN5
        have hf8 : ∀ w6, LowK (w.heap.size + 1 + 1) wr.heap.size w3.heap.size w5.drew w6 → w6.heap[w.heap.size]? = some (.cells #[.string (str p.name), .int .i64 p.shard, .int .i64 p.cpu, .int .i64 p.mem, .slice ua p.picks.length uc, .slice xa p.bears.length xc, .bool p.alone] 62 (0, 0)) ∧
            w6.heap[wr.heap.size]? = some (.cells #[.string s, .int .i64 n.cpu, .int .i64 n.mem, .slice nua n.marks.length nuc, .slice nxa n.taints.length nxc, .bool n.closed] 60 (0, 0)) ∧
            w6.heap[w3.heap.size]? = some (.cells #[.int .i64 cu, .int .i64 mu] 58 (0, 0)) ∧ Below (w.heap.size + 1 + 1) w5 w6 := fun w6 hb => by
          have hb' : Below (w.heap.size + 1 + 1) w5 w6 := (Below.refl _ w5).drew.trans (hb.1 HN5.out)
          have hx : ∀ k, k = wr.heap.size ∨ k = w3.heap.size → k < w5.heap.size → w6.heap[k]? = w5.heap[k]? := fun k h1 h2 => hb.2 k h1 h2
          exact ⟨(hb'.block w.heap.size (by omega)).trans HF5.out.1, (hx _ (.inl rfl) (by omega)).trans HF5.out.2.1, (hx _ (.inr rfl) hw5).trans HF5.out.2.2.1, hb'⟩
        have HF8 := Lib.hid hf8
        have HBB := Lib.hid (show Below (w.heap.size + 1 + 1) w1 w5 from hrr.bl.trans (hb5.mono hwr))
        have HCS := Lib.hid (And.intro hcs hcl)
        have HWB := Lib.hid (fun w6 (hb : Below (w.heap.size + 1 + 1) w5 w6) => (HB5.out.trans (hb.mono (by omega)) : Below w.heap.size w w6))
        have HW5 := Lib.hid (show w.heap.size + 1 + 1 ≤ w5.heap.size from hN5)
        clear hcs hrr hcl hwr hb5 hw3 hw5 hsc hsc' hN5 hf8 hyp HR
        refine' Se.wp_region_pass (fun w w' => Below w.heap.size w w') (LowK (w.heap.size + 1 + 1) wr.heap.size w3.heap.size) 16 (by kernel_rfl) (by kernel_rfl) (by kernel_rfl) (by kernel_rfl) (by kernel_rfl) (by kernel_rfl)
          (fun w => LowK.refl w) (fun h k => LowK.trans h k) [(fun w3 => w3.ownsRow (w.heap.size + 1 + 1) 9 1 u10 cs.length (cs.map fun n => Value.string (str n.name)), 4), (fun w3 => w3.ownsRow (w.heap.size + 1 + 1) 3 1 u11 cs.length (cs.map fun n => Value.int .i64 (scoreN L mode own p n)), 15)] [] ?_ ?_ (by simp) (fun vals => ?_)
        case refine'_2 =>
          simp only [List.forall_mem_cons]
          exact ⟨own_drew HRN.out, own_drew HRS.out, by simp⟩
        case refine'_3 =>
          simp only [List.forall_mem_cons]
          exact ⟨fun w1 w2 k h => own_below h k, fun w1 w2 k h => own_below h k, by simp⟩
        rotate_left
        simp only [List.take_succ_cons, List.take_zero, List.drop_succ_cons, List.drop_zero]
        iterate 2 (apply Se.pas_x (fun _ _ h => LowK.of_below h) rfl; (focus rfl); (focus (intro w6 hR hD hP K hK; replace hK := Lib.hid hK; skip; clear hR hD hP; go_simp; exact hK.out _ (Below.refl _ _))); simp only [Act.put, List.setIfInBounds_toArray, List.set_cons_zero, List.set_cons_succ, Nat.reduceAdd, List.cons_append, List.nil_append])
        (apply Se.pas_x (fun _ _ h => LowK.of_below h) rfl; (focus rfl); (focus (intro w6 hR hD hP K hK; replace hK := Lib.hid hK; obtain ⟨e0, e1, e2, e3, e4, e5⟩ := cells6 (HF8.out w6 hR).2.1; clear hR hD hP; go_simp; exact hK.out _ (Below.refl _ _))); simp only [Act.put, List.setIfInBounds_toArray, List.set_cons_zero, List.set_cons_succ, Nat.reduceAdd, List.cons_append, List.nil_append])
        (apply Se.pas_r (fun v w' => ∃ g, v = .slice (some ⟨g, 0, none⟩) 1 1 ∧ Value.ownBlock u10 ≠ some g ∧ Value.ownBlock u11 ≠ some g ∧ w'.heap[g]? = some (.cells #[.string s] 9 (0, 0))) (fun _ _ h => LowK.of_below h) rfl (fun v w1 w2 h k => by obtain ⟨g, h1, h2, h4, h3⟩ := h; exact ⟨g, h1, h2, h4, block_below h3 k⟩); (focus rfl); (focus (intro w6 hR hD hP K hK; replace hK := Lib.hid hK; have hown := hP _ (List.mem_cons_self ..) (.inr (by kernel_rfl)); have hown2 := hP _ (List.mem_cons_of_mem _ (List.mem_cons_self ..)) (.inr (by kernel_rfl)); have HO := Lib.hid (fun e => Nat.lt_irrefl _ (hown.lt _ e).2 : Value.ownBlock u10 ≠ some w6.heap.size); have HO2 := Lib.hid (fun e => Nat.lt_irrefl _ (hown2.lt _ e).2 : Value.ownBlock u11 ≠ some w6.heap.size); clear hR hD hP hown hown2; go_simp; exact hK.out _ _ (below_alloc' (Below.refl _ _) _) ⟨_, rfl, HO.out, HO2.out, alloc_at _ _⟩)); simp only [Act.put, List.setIfInBounds_toArray, List.set_cons_zero, List.set_cons_succ, Nat.reduceAdd, List.cons_append, List.nil_append])
        (apply Se.pas_s (fun w w' => w.grownBy w' (Value.ownBlock u10)) (fun v w' => w'.ownsRow (w.heap.size + 1 + 1) 9 1 v (cs.length + 1) (cs.map (fun n => Value.string (str n.name)) ++ [Value.string s]) ∧ (v.ownBlock = Value.ownBlock u10 ∨ ∀ g, v.ownBlock = some g → w5.heap.size ≤ g)) (fun _ _ h => LowK.of_gr (fun g hg => HL10.out g hg) h) rfl (fun v w1 w2 h k => ⟨own_below h.1 k, h.2⟩); (focus rfl); (focus (intro w6 hR hD hP K hK; replace hK := Lib.hid hK; obtain ⟨g, eg, _, _, hg2⟩ : ∃ g, vals 3 = .slice (some ⟨g, 0, none⟩) 1 1 ∧ Value.ownBlock u10 ≠ some g ∧ Value.ownBlock u11 ≠ some g ∧ w6.heap[g]? = some (.cells #[.string s] 9 (0, 0)) := hD 3 (by kernel_rfl); have hown := hP _ (List.mem_cons_self ..) (.inl rfl); have hsz : w5.heap.size ≤ w6.heap.size := (HF8.out w6 hR).2.2.2.size; clear hD hP hR; simp only [eg] at hK ⊢; exact Aq.wp_app_kp elt_strs (.tmp 37) (.tmp 40) rfl (v := u10) (n := cs.length) (m := 1) (c := 1) (ad := ⟨g, 0, none⟩) (news := [Value.string s]) rfl rfl hown rfl (Aq.news_at hg2) (by simp [Value.oneCell']) (by have := HCS.out.2; omega) (Nat.le_trans HW5.out hsz) (fun v' w' h1 h3 h4 => hK.out _ _ h3 ⟨h1, h4.imp id fun h g hg => Nat.le_trans hsz (h g hg)⟩))); simp only [Act.put, List.setIfInBounds_toArray, List.set_cons_zero, List.set_cons_succ, Nat.reduceAdd, List.cons_append, List.nil_append])
        iterate 3 (apply Se.pas_x (fun _ _ h => LowK.of_below h) rfl; (focus rfl); (focus (intro w6 hR hD hP K hK; replace hK := Lib.hid hK; skip; clear hR hD hP; go_simp; exact hK.out _ (Below.refl _ _))); simp only [Act.put, List.setIfInBounds_toArray, List.set_cons_zero, List.set_cons_succ, Nat.reduceAdd, List.cons_append, List.nil_append])
        (apply Se.pas_x (fun _ _ h => LowK.of_below h) rfl; (focus rfl); (focus (intro w6 hR hD hP K hK; replace hK := Lib.hid hK; obtain ⟨e0, e1, e2, e3, e4, e5⟩ := cells6 (HF8.out w6 hR).2.1; clear hR hD hP; go_simp; exact hK.out _ (Below.refl _ _))); simp only [Act.put, List.setIfInBounds_toArray, List.set_cons_zero, List.set_cons_succ, Nat.reduceAdd, List.cons_append, List.nil_append])
        (apply Se.pas_x (fun _ _ h => LowK.of_below h) rfl; (focus rfl); (focus (intro w6 hR hD hP K hK; replace hK := Lib.hid hK; obtain ⟨e0, e1⟩ := cells2 (HF8.out w6 hR).2.2.1; clear hR hD hP; go_simp; exact hK.out _ (Below.refl _ _))); simp only [Act.put, List.setIfInBounds_toArray, List.set_cons_zero, List.set_cons_succ, Nat.reduceAdd, List.cons_append, List.nil_append])
        (apply Se.pas_x (fun _ _ h => LowK.of_below h) rfl; (focus rfl); (focus (intro w6 hR hD hP K hK; replace hK := Lib.hid hK; skip; clear hR hD hP; go_simp; exact hK.out _ (Below.refl _ _))); simp only [Act.put, List.setIfInBounds_toArray, List.set_cons_zero, List.set_cons_succ, Nat.reduceAdd, List.cons_append, List.nil_append])
        (apply Se.pas_x (fun _ _ h => LowK.of_below h) rfl; (focus rfl); (focus (intro w6 hR hD hP K hK; replace hK := Lib.hid hK; obtain ⟨e0, e1, e2, e3, e4, e5, e6⟩ := cells7 (HF8.out w6 hR).1; clear hR hD hP; go_simp; exact hK.out _ (Below.refl _ _))); simp only [Act.put, List.setIfInBounds_toArray, List.set_cons_zero, List.set_cons_succ, Nat.reduceAdd, List.cons_append, List.nil_append])
        (apply Se.pas_x (fun _ _ h => LowK.of_below h) rfl; (focus rfl); (focus (intro w6 hR hD hP K hK; replace hK := Lib.hid hK; skip; clear hR hD hP; go_simp; exact hK.out _ (Below.refl _ _))); simp only [Act.put, List.setIfInBounds_toArray, List.set_cons_zero, List.set_cons_succ, Nat.reduceAdd, List.cons_append, List.nil_append])
        (apply Se.pas_x (fun _ _ h => LowK.of_below h) rfl; (focus rfl); (focus (intro w6 hR hD hP K hK; replace hK := Lib.hid hK; have HTT := Lib.hid (HT.out.below (HWB.out w6 (HF8.out w6 hR).2.2.2)); clear hR hD hP; go_simp; refine (score_any mode n.cpu n.mem cu mu p.cpu p.mem ku w6 HTT.out).mono ?_; rintro e w' ⟨rfl, hb⟩; rw [HSC.out.2]; exact hK.out _ hb)); simp only [Act.put, List.setIfInBounds_toArray, List.set_cons_zero, List.set_cons_succ, Nat.reduceAdd, List.cons_append, List.nil_append])
        (apply Se.pas_r (fun v w' => ∃ g, v = .slice (some ⟨g, 0, none⟩) 1 1 ∧ Value.ownBlock u11 ≠ some g ∧ w'.heap[g]? = some (.cells #[.int .i64 sc] 3 (0, 0))) (fun _ _ h => LowK.of_below h) rfl (fun v w1 w2 h k => by obtain ⟨g, h1, h2, h3⟩ := h; exact ⟨g, h1, h2, block_below h3 k⟩); (focus rfl); (focus (intro w6 hR hD hP K hK; replace hK := Lib.hid hK; have hown := hP _ (List.mem_cons_of_mem _ (List.mem_cons_self ..)) (.inr (by kernel_rfl)); have HO := Lib.hid (fun e => Nat.lt_irrefl _ (hown.lt _ e).2 : Value.ownBlock u11 ≠ some w6.heap.size); clear hR hD hP hown; go_simp; exact hK.out _ _ (below_alloc' (Below.refl _ _) _) ⟨_, rfl, HO.out, alloc_at _ _⟩)); simp only [Act.put, List.setIfInBounds_toArray, List.set_cons_zero, List.set_cons_succ, Nat.reduceAdd, List.cons_append, List.nil_append])
        (apply Se.pas_s (fun w w' => w.grownBy w' (Value.ownBlock u11)) (fun v w' => w'.ownsRow (w.heap.size + 1 + 1) 3 1 v (cs.length + 1) (cs.map (fun n => Value.int .i64 (scoreN L mode own p n)) ++ [Value.int .i64 sc])) (fun _ _ h => LowK.of_gr (fun g hg => HL11.out g hg) h) rfl (fun v w1 w2 h k => own_below h k); (focus rfl); (focus (intro w6 hR hD hP K hK; replace hK := Lib.hid hK; obtain ⟨g, eg, _, hg2⟩ : ∃ g, vals 14 = .slice (some ⟨g, 0, none⟩) 1 1 ∧ Value.ownBlock u11 ≠ some g ∧ w6.heap[g]? = some (.cells #[.int .i64 sc] 3 (0, 0)) := hD 14 (by kernel_rfl); have hown := hP _ (List.mem_cons_of_mem _ (List.mem_cons_self ..)) (.inl rfl); have hsz : w5.heap.size ≤ w6.heap.size := (HF8.out w6 hR).2.2.2.size; clear hD hP hR; simp only [eg] at hK ⊢; exact Aq.wp_app_kp elt_ints (.tmp 42) (.tmp 51) rfl (v := u11) (n := cs.length) (m := 1) (c := 1) (ad := ⟨g, 0, none⟩) (news := [Value.int .i64 sc]) rfl rfl hown rfl (Aq.news_at hg2) (by simp [Value.oneCell']) (by have := HCS.out.2; omega) (Nat.le_trans HW5.out hsz) (fun v' w' h1 h3 h4 => hK.out _ _ h3 h1))); simp only [Act.put, List.setIfInBounds_toArray, List.set_cons_zero, List.set_cons_succ, Nat.reduceAdd, List.cons_append, List.nil_append])
        refine Se.pas_ends ?_ ?_ fun w6 hR hp _ => ?_
        · simp only [Se.AllK, true_and, and_true, true_or, or_true, Nat.reduceAdd]
          refine ⟨⟨.inr (.inr ?_), .inr (.inl (by kernel_rfl)), .inr (.inl (by kernel_rfl))⟩, .inr (.inr ?_), .inr (.inr ?_), .inr (.inr ?_)⟩
          · intro v w1 w2 _ hg h
            obtain ⟨g, h1, h2, h4, h3⟩ := h
            exact ⟨g, h1, h2, h4, Aq.block_kept h3 hg h2⟩
          · intro v w1 w2 _ hg h
            obtain ⟨g, h1, h2, h4, h3⟩ := h
            exact ⟨g, h1, h2, h4, Aq.block_kept h3 hg h4⟩
          · intro v w1 w2 _ hg h
            refine ⟨h.1.kept hg ?_, h.2⟩
            by_cases hv : v.ownBlock = none
            · exact .inl hv
            · refine .inr fun e => ?_
              obtain ⟨g, hg'⟩ := Option.ne_none_iff_exists'.1 hv
              rcases h.2 with h2 | h2
              · rcases HNE.out with h3 | h3
                · rw [h3] at e; exact hv e
                · exact h3 (e.symm.trans h2)
              · have h5 := HT10.out g (e.symm.trans hg')
                have h6 := h2 g hg'
                omega
          · intro v w1 w2 _ hg h
            obtain ⟨g, h1, h2, h3⟩ := h
            exact ⟨g, h1, h2, Aq.block_kept h3 hg h2⟩
        · simp only [Se.AllK, true_and, and_true, Nat.reduceAdd]
          refine ⟨fun e he => ?_, fun e he => ?_⟩
          · simp only [List.mem_cons, List.not_mem_nil, or_false] at he
            rcases he with rfl | rfl
            · exact .inl rfl
            · exact .inr fun w1 w2 _ hg h => World.ownsRow.kept h hg HNE.out
          · simp only [List.mem_cons, List.not_mem_nil, or_false] at he
            rcases he with rfl | rfl
            · exact .inr fun w1 w2 _ hg h => World.ownsRow.kept h hg HNE2.out
            · exact .inl rfl
        have h4 : w6.ownsRow (w.heap.size + 1 + 1) 9 1 (vals 4) (cs.length + 1) (cs.map (fun n => Value.string (str n.name)) ++ [Value.string s]) ∧ _ := hp 4 (by simp)
        have h15 : w6.ownsRow (w.heap.size + 1 + 1) 3 1 (vals 15) (cs.length + 1) (cs.map (fun n => Value.int .i64 (scoreN L mode own p n)) ++ [Value.int .i64 sc]) := hp 15 (by simp)
        have hnew : PlaceR w w1 L mode own p (candL L own p (L.sorted.take (j + 1))) (vals 4) (vals 15) w6 := by
          rw [HCL.out, HU.out.1, HU.out.2.1, if_pos HY.out, HCS.out.1]
          refine ⟨HBB.out.trans (HF8.out w6 hR).2.2.2, ?_, ?_⟩
          · rw [List.length_append, List.map_append, List.map_cons, List.map_nil, HS.out]; exact h4.1
          · rw [List.length_append, List.map_append, List.map_cons, List.map_nil, HSC.out.1]; exact h15
        have HNW := Lib.hid hnew
        clear hp h4 h15 hR hnew
        go_wp2
        go_roundw
        case rel => exact ⟨j + 1, by go_num, HJ.out, HNW.out⟩
        case measure => have := HJ.out; simp [intOf]; omega
      · have hyy : 0 < y := by omega
        have HY0 := Lib.hid hy0
        clear hy0 hyp
        go_wp2
        go_roundw
        case rel =>
          refine ⟨j + 1, by go_num, HJ.out, ?_⟩
          rw [HCL.out, HU.out.1, HU.out.2.1, if_neg (by rw [HY.out]; exact HY0.out), List.append_nil]
          exact ⟨HR.out.bl.trans (HF5.out.2.2.2.mono (by have := HR.out.bl.size; rw [HS0.out] at this; exact this)), own_below HR.out.names HF5.out.2.2.2, own_below HR.out.scores HF5.out.2.2.2⟩
        case measure => have := HJ.out; simp [intOf]; omega
    · obtain rfl : j = N := by omega
      obtain ⟨cs, hcs⟩ : ∃ cs, candL L own p L.sorted = cs := ⟨_, rfl⟩
      have hrr := HR.out
      rw [← HNN.out, List.take_length, hcs] at hrr
      have hcl : cs.length ≤ 8 := by rw [← hcs]; exact Nat.le_trans (candL_len _ _ _ _) (by rw [HNN.out]; exact h8)
      have hpl : placeL L mode own p = if bestTo (cs.map fun n => str n.name) (cs.map (scoreN L mode own p)) cs.length < 0 then none else some ⟨p.name, (cs.getD (bestTo (cs.map fun n => str n.name) (cs.map (scoreN L mode own p)) cs.length).toNat noNodeL).name, p.cpu, p.mem, p.alone⟩ := by
        unfold placeL
        rw [hcs]
      have HPL := Lib.hid hpl
      have hz1 := block_below HZ1.out hB1
      obtain ⟨e0, e1, e2, e3, e4⟩ := cells5 hz1
      have ef := free_of_block hz1
      have HZ5 := Lib.hid hz1
      clear hpl HR hz1 hB1
      by_cases hk0 : cs.length = 0
      · have hrn := hrr.names
        have hrs := hrr.scores
        rw [hk0] at hrn hrs
        obtain ⟨xa1, xc1, rfl⟩ : ∃ a c, u10 = .slice a 0 c := by
          rcases own_forms hrn with ⟨rfl, _⟩ | ⟨g, c, rfl, _⟩
          · exact ⟨_, _, rfl⟩
          · exact ⟨_, _, rfl⟩
        obtain ⟨xa2, xc2, rfl⟩ : ∃ a c, u11 = .slice a 0 c := by
          rcases own_forms hrs with ⟨rfl, _⟩ | ⟨g, c, rfl, _⟩
          · exact ⟨_, _, rfl⟩
          · exact ⟨_, _, rfl⟩
        have HE := Lib.hid (show placeL L mode own p = none by rw [HPL.out, hk0]; rfl)
        clear hrr hrn hrs hk0
        go_wp2_with fail
        refine (best_nil _ _ _ _ wr).mono ?_
        rintro e w2 ⟨rfl, rfl⟩
        go_wp2_with fail
        have hq := put5 (.string ⟨#[]⟩) (.string ⟨#[]⟩) (.int .i64 0) (.int .i64 0) (.bool false) HZ5.out
        generalize World.setCell (World.setCell (World.setCell (World.setCell (World.setCell w2 _ _) _ _) _ _) _ _) _ _ = y2 at hq ⊢
        obtain ⟨q0, q1, q2, q3, q4⟩ := cells5 hq.1
        exact bodyPost_ret (v := .tuple #[.agg #[.string ⟨#[]⟩, .string ⟨#[]⟩, .int .i64 0, .int .i64 0, .bool false], .bool false]) (by simp [results, Tryz.results124, go_sem, q0, q1, q2, q3, q4]) rfl ⟨by rw [HE.out]; rfl, Gb.below HB1.out hq.2 (by omega) HB1.out.size⟩
      · have hk1 : 0 < cs.length := Nat.pos_of_ne_zero hk0
        obtain ⟨g7, c7, rfl, _, hg7⟩ := (own_forms hrr.names).resolve_left (by rintro ⟨_, h, _⟩; exact hk0 h)
        obtain ⟨g8, c8, rfl, _, hg8⟩ := (own_forms hrr.scores).resolve_left (by rintro ⟨_, h, _⟩; exact hk0 h)
        have hbd := bestTo_bd (cs.map fun n => str n.name) (cs.map (scoreN L mode own p)) cs.length
        have hc7 : ∀ i, i < cs.length → wr.cell? ⟨g7, 0 + i, none⟩ = some (.string ((cs.map fun n => str n.name).getD i ByteArray.empty)) := fun i hi => by
          rw [Nat.zero_add, hrr.names.cellAt i (by rw [Nat.mul_one]; exact hi)]
          simp [List.getD_eq_getElem?_getD, hi]
        have hc8 : ∀ i, i < cs.length → wr.cell? ⟨g8, 0 + i, none⟩ = some (.int .i64 ((cs.map (scoreN L mode own p)).getD i 0)) := fun i hi => by
          rw [Nat.zero_add, hrr.scores.cellAt i (by rw [Nat.mul_one]; exact hi)]
          simp [List.getD_eq_getElem?_getD, hi]
        have HBP := Lib.hid (best_pos cs.length g7 0 c7 g8 0 c8 _ _ (by omega) wr hc7 hc8)
        generalize bestTo (cs.map fun n => str n.name) (cs.map (scoreN L mode own p)) cs.length = bt at HPL hbd HBP
        obtain ⟨bn, rfl⟩ : ∃ bn : Nat, bt = (bn : Int) := ⟨bt.toNat, by have := hbd.2.2 hk1; omega⟩
        have hbn : bn < cs.length := by have := hbd.2.1; omega
        have hb7 := hc7 bn hbn
        rw [Nat.zero_add, List.getD_eq_getElem?_getD, List.getElem?_map, List.getElem?_eq_getElem hbn] at hb7
        simp only [Option.map_some, Option.getD_some] at hb7
        have hE : placeL L mode own p = some ⟨p.name, cs[bn].name, p.cpu, p.mem, p.alone⟩ := by
          rw [HPL.out, if_neg (by omega), Int.toNat_natCast, List.getD_eq_getElem?_getD, List.getElem?_eq_getElem hbn]
          rfl
        generalize cs[bn] = nb at hb7 hE
        have HE := Lib.hid hE
        have HB7 := Lib.hid hb7
        have hbl : (bn : Int) < (cs.length : Int) := by omega
        have hb0 : ¬ (bn : Int) < 0 := by omega
        have hb00 : (0 : Int) ≤ (bn : Int) := by omega
        generalize cs.length = K at hbn hbl HBP
        clear hrr hc7 hc8 hE hb7 HPL hbd
        go_wp2_with fail
        refine HBP.out.mono ?_
        rintro e w2 ⟨q, rfl, rfl⟩
        go_upto_region 13 with fail
        have hf13 : ∀ w6, Below (wr.drewN q).heap.size (wr.drewN q).drew w6 → Below wr.heap.size wr w6 := fun w6 hb => (below_drewN' (Below.refl wr.heap.size wr) q).drew.trans hb
        have HF13 := Lib.hid hf13
        clear hf13
        refine' Par.wp_region_pars (fun w w' => Below w.heap.size w w') 11 (by kernel_rfl) (by kernel_rfl) (by kernel_rfl) (by kernel_rfl) (by kernel_rfl) (by kernel_rfl)
          (fun w => Below.refl _ w) (fun h k => below_call h k) (fun vals => ?_)
        rotate_left
        simp only [List.take_succ_cons, List.take_zero, List.drop_succ_cons, List.drop_zero]
        (apply Par.par_x rfl; (focus (intro w6 hR hD K hK; replace hK := Lib.hid hK; skip; clear hR hD; go_simp; exact hK.out _ (Below.refl _ _))); simp only [Act.put, List.setIfInBounds_toArray, List.set_cons_zero, List.set_cons_succ, Nat.reduceAdd, List.cons_append, List.nil_append])
        (apply Par.par_x rfl; (focus (intro w6 hR hD K hK; replace hK := Lib.hid hK; obtain ⟨e0, e1, e2, e3, e4, e5, e6⟩ := cells7 (block_below HZR.out (HF13.out w6 hR)); clear hR hD; go_simp; exact hK.out _ (Below.refl _ _))); simp only [Act.put, List.setIfInBounds_toArray, List.set_cons_zero, List.set_cons_succ, Nat.reduceAdd, List.cons_append, List.nil_append])
        iterate 3 (apply Par.par_x rfl; (focus (intro w6 hR hD K hK; replace hK := Lib.hid hK; skip; clear hR hD; go_simp; exact hK.out _ (Below.refl _ _))); simp only [Act.put, List.setIfInBounds_toArray, List.set_cons_zero, List.set_cons_succ, Nat.reduceAdd, List.cons_append, List.nil_append])
        (apply Par.par_x rfl; (focus (intro w6 hR hD K hK; replace hK := Lib.hid hK; have e0 := cell_below HB7.out (HF13.out w6 hR); clear hR hD; go_simp; exact hK.out _ (Below.refl _ _))); simp only [Act.put, List.setIfInBounds_toArray, List.set_cons_zero, List.set_cons_succ, Nat.reduceAdd, List.cons_append, List.nil_append])
        (apply Par.par_x rfl; (focus (intro w6 hR hD K hK; replace hK := Lib.hid hK; skip; clear hR hD; go_simp; exact hK.out _ (Below.refl _ _))); simp only [Act.put, List.setIfInBounds_toArray, List.set_cons_zero, List.set_cons_succ, Nat.reduceAdd, List.cons_append, List.nil_append])
        (apply Par.par_x rfl; (focus (intro w6 hR hD K hK; replace hK := Lib.hid hK; obtain ⟨e0, e1, e2, e3, e4, e5, e6⟩ := cells7 (block_below HZR.out (HF13.out w6 hR)); clear hR hD; go_simp; exact hK.out _ (Below.refl _ _))); simp only [Act.put, List.setIfInBounds_toArray, List.set_cons_zero, List.set_cons_succ, Nat.reduceAdd, List.cons_append, List.nil_append])
        (apply Par.par_x rfl; (focus (intro w6 hR hD K hK; replace hK := Lib.hid hK; skip; clear hR hD; go_simp; exact hK.out _ (Below.refl _ _))); simp only [Act.put, List.setIfInBounds_toArray, List.set_cons_zero, List.set_cons_succ, Nat.reduceAdd, List.cons_append, List.nil_append])
        (apply Par.par_x rfl; (focus (intro w6 hR hD K hK; replace hK := Lib.hid hK; obtain ⟨e0, e1, e2, e3, e4, e5, e6⟩ := cells7 (block_below HZR.out (HF13.out w6 hR)); clear hR hD; go_simp; exact hK.out _ (Below.refl _ _))); simp only [Act.put, List.setIfInBounds_toArray, List.set_cons_zero, List.set_cons_succ, Nat.reduceAdd, List.cons_append, List.nil_append])
        (apply Par.par_x rfl; (focus (intro w6 hR hD K hK; replace hK := Lib.hid hK; skip; clear hR hD; go_simp; exact hK.out _ (Below.refl _ _))); simp only [Act.put, List.setIfInBounds_toArray, List.set_cons_zero, List.set_cons_succ, Nat.reduceAdd, List.cons_append, List.nil_append])
        refine Par.par_end fun w5 hR hp => ?_
        have hz5 := block_below HZ5.out (HF13.out w5 hR)
        have HB5 := Lib.hid (below_call HB1.out (HF13.out w5 hR))
        have e5 := free_of_block hz5
        have HZ6 := Lib.hid hz5
        clear hp hR e0 e1 e2 e3 e4 ef
        obtain ⟨e0, e1, e2, e3, e4⟩ := cells5 hz5
        clear hz5
        go_wp2_with fail
        have hq := put5 (.string (str p.name)) (.string (str nb.name)) (.int .i64 p.cpu) (.int .i64 p.mem) (.bool p.alone) HZ6.out
        generalize World.setCell (World.setCell (World.setCell (World.setCell (World.setCell w5 _ _) _ _) _ _) _ _) _ _ = y2 at hq ⊢
        obtain ⟨q0, q1, q2, q3, q4⟩ := cells5 hq.1
        exact bodyPost_ret (v := .tuple #[.agg #[.string (str p.name), .string (str nb.name), .int .i64 p.cpu, .int .i64 p.mem, .bool p.alone], .bool true]) (by simp [results, Tryz.results124, go_sem, q0, q1, q2, q3, q4]) rfl ⟨by rw [HE.out]; rfl, Gb.below HB5.out hq.2 (by omega) HB5.out.size⟩
end Go.Proofs.YtofofjfmhaggmaaGreatDoor
