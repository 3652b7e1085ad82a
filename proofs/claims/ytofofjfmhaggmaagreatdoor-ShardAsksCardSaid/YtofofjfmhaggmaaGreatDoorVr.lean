/- What a packer's shelf has near a node, what it uses there. -/
import Derived.Test.YtofofjfmhaggmaaGreatDoorVp
import Derived.Test.YtofofjfmhaggmaaGreatDoorVn
set_option linter.unusedVariables false
set_option linter.unusedSimpArgs false
namespace Go.Proofs.YtofofjfmhaggmaaGreatDoor
open Go.RowKit

theorem places_len (l : List PlaceL) : (l.flatMap placeV).length = l.length * 5 := by
  induction l with
  | nil => rfl
  | cons p t ih => simp [ih, placeV]; omega
/-- What near has found. -/
structure NearR (w w1 : World) (nm : List UInt8) (own : List PlaceL) (j : Nat) (u : Value) (wr : World) : Prop where
  bl : Below (w.heap.size + 1) w1 wr
  row : wr.ownsRow (w.heap.size + 1) 143 5 u (onP nm (own.take j)).length ((onP nm (own.take j)).flatMap placeV)
theorem onP_take {nm : List UInt8} {own : List PlaceL} {j : Nat} {x : PlaceL} (hj : j < own.length) (hx : own[j] = x) (h : x.node = nm) : onP nm (own.take (j + 1)) = onP nm (own.take j) ++ [x] := by
  rw [List.take_succ_eq_append_getElem hj, onP_append, hx]
  simp [onP, h]
theorem onP_skip {nm : List UInt8} {own : List PlaceL} {j : Nat} {x : PlaceL} (hj : j < own.length) (hx : own[j] = x) (h : x.node ≠ nm) : onP nm (own.take (j + 1)) = onP nm (own.take j) := by
  rw [List.take_succ_eq_append_getElem hj, onP_append, hx]
  simp [onP, h]
/-- What near hands back. -/
def NearPost (w : World) (nm : List UInt8) (own : List PlaceL) (e : Ending) (w' : World) : Prop :=
  ∃ r, e = .returned r ∧ w'.ownsRow w.heap.size 143 5 r (onP nm own).length ((onP nm own).flatMap placeV) ∧ Below w.heap.size w w'
set_option maxRecDepth 100000 in
set_option maxHeartbeats 1000000 in
theorem near_any (w : World) (S : Nat) (ptr v : Value) (own : List PlaceL) (hz : w.heap[S]? = some (.cells #[ptr, v] 173 (0, 0))) (hv : PlacesQ (fun _ => False) w v own) (hl : own.length ≤ 1073741824)
    (nm : List UInt8) (c m : Int) (a1 a2 : Value) (f : Bool) :
    Calls Tryz.prog 299 #[.pointer (some ⟨S, 0, none⟩), .agg #[.string (str nm), .int .i64 c, .int .i64 m, a1, a2, .bool f]] w (NearPost w nm own) := by
  obtain ⟨xa, xc, rfl, hxc⟩ := flat_cells hv
  have k1 := cell_of_block hz 1 (.slice xa own.length xc) rfl
  have k1' : ∀ o, (w.alloc o).cell? ⟨S, 1, none⟩ = some (.slice xa own.length xc) := fun o => cell_below k1 (below_alloc' (Below.refl _ _) o)
  have HXC := Lib.hid hxc
  clear hxc hv k1 hz
  go_enter Tryz.func299, Tryz.ntmps299
  go_wp2_with fail
  have z0 := alloc_at w (.cells #[.string (str nm), .int .i64 c, .int .i64 m, a1, a2, .bool f] 60)
  have hb0 : Below w.heap.size w (w.alloc (.cells #[.string (str nm), .int .i64 c, .int .i64 m, a1, a2, .bool f] 60)) := below_alloc' (Below.refl _ _) _
  have hs0 : (w.alloc (.cells #[.string (str nm), .int .i64 c, .int .i64 m, a1, a2, .bool f] 60)).heap.size = w.heap.size + 1 := World.size_alloc _ _
  generalize w.alloc _ = w1 at z0 hb0 hs0 ⊢
  have HZ0 := Lib.hid z0
  have HB0 := Lib.hid hb0
  have HS0 := Lib.hid hs0
  clear z0 hb0 hs0 k1'
  go_loopw [5, 13] (fun u i wr => ∃ j : Nat, i = .int .i64 j ∧ j ≤ own.length ∧ NearR w w1 nm own j u wr) (fun _ i _ => own.length - (intOf i).toNat)
  case atStart => exact ⟨0, rfl, Nat.zero_le _, ⟨Below.refl _ _, World.ownsRow_nil _ _ _ _⟩⟩
  case round =>
    obtain ⟨j, rfl, hj, hR⟩ := hrel
    have HR := Lib.hid hR
    clear hR
    by_cases hjl : j < own.length
    · have hB1 : Below w1.heap.size w1 wr := HR.out.bl.mono (by rw [HS0.out]; omega)
      obtain ⟨b, rfl, hbw, hcap, d0, d1, d2, d3, d4⟩ := HXC.out j hjl
      have HBR := Lib.hid (below_call HB0.out hB1)
      have hz := block_below HZ0.out hB1
      have d0 := cell_below d0 HBR.out
      have d1 := cell_below d1 HBR.out
      have d2 := cell_below d2 HBR.out
      have d3 := cell_below d3 HBR.out
      have d4 := cell_below d4 HBR.out
      have z0 := fun o => cell_below (cell_of_block hz 0 (.string (str nm)) rfl) (below_alloc' (Below.refl wr.heap.size wr) o)
      have hj0 : (0 : Int) ≤ (j : Int) := by omega
      have hj1 : (j : Int) < (own.length : Int) := by omega
      have HJ := Lib.hid hjl
      generalize hgx : own[j] = x at d0 d1 d2 d3 d4
      have HGX := Lib.hid hgx
      clear hz hB1 hgx
      by_cases hn : x.node = nm
      · have hn' : str x.node = str nm := by rw [hn]
        rw [hn'] at d1
        have HN := Lib.hid hn
        have HROW := Lib.hid (fun o => own_below HR.out.row (below_alloc' (Below.refl wr.heap.size wr) o))
        have HLN := Lib.hid (show (onP nm (own.take j)).length + 1 ≤ 1099511627776 by have := onP_len_le nm (own.take j); rw [List.length_take] at this; omega)
        have HWS := Lib.hid (show w.heap.size + 1 ≤ wr.heap.size by have := HR.out.bl.size; rw [HS0.out] at this; exact this)
        clear hn hn'
        go_wp2_with (at_builtin; refine list_appends elt_places _ _ rfl rfl rfl rfl (own_below HR.out.row (below_alloc' (below_alloc' (Below.refl wr.heap.size wr) _) _)) (news := [.string (str x.pod), .string (str nm), .int .i64 x.cpu, .int .i64 x.mem, .bool x.alone]) rfl (World.news_of_block (alloc_second _ _ _)) (by simp [Value.oneCell']) (by have := HLN.out; omega) (by have := HWS.out; simp; omega) ?_; intro v'' w'' hown hgrow; have HO := Lib.hid (And.intro hown hgrow); clear hown hgrow)
        have hnew : NearR w w1 nm own (j + 1) v'' w'' := by
          refine ⟨((HR.out.bl.alloc (by rw [← HS0.out]; exact HR.out.bl.size) _).alloc (by rw [← HS0.out]; exact Nat.le_trans HR.out.bl.size (by simp)) _).grown HO.out.2 ?_ fun k hk => (own_lt HR.out.row hk).1, ?_⟩
          · have := HR.out.bl.size; have := HWS.out; simp; omega
          · rw [onP_take HJ.out HGX.out HN.out, List.length_append, List.flatMap_append]
            have := HO.out.1
            rw [← HN.out] at this ⊢
            simpa [placeV] using this
        have HNW := Lib.hid hnew
        clear hnew
        go_roundw
        case rel => exact ⟨j + 1, by go_num, HJ.out, HNW.out⟩
        case measure => have := HJ.out; simp [intOf]; omega
      · have hs : ((str x.node).toList == (str nm).toList) = false := by
          rw [str_toList, str_toList]; simpa using hn
        have HN := Lib.hid hn
        have hnew : ∀ o, NearR w w1 nm own (j + 1) u5 (wr.alloc o) := fun o =>
          ⟨HR.out.bl.alloc (by have := HR.out.bl.size; rw [HS0.out] at this; exact this) o, by rw [onP_skip HJ.out HGX.out HN.out]; exact own_below HR.out.row (below_alloc' (Below.refl _ _) _)⟩
        have HNW := Lib.hid hnew
        clear hnew hn
        go_wp2
        go_roundw
        case rel => exact ⟨j + 1, by go_num, HJ.out, HNW.out _⟩
        case measure => have := HJ.out; simp [intOf]; omega
    · obtain rfl : j = own.length := by omega
      have HF := Lib.hid (show onP nm (own.take own.length) = onP nm own by rw [List.take_of_length_le (Nat.le_refl _)])
      go_wp2
      go_ret
      refine ⟨_, rfl, ?_, below_call HB0.out (HR.out.bl.mono (by rw [HS0.out]; omega))⟩
      have := HR.out.row
      rw [HF.out] at this
      exact own_base this (by omega)
end Go.Proofs.YtofofjfmhaggmaaGreatDoor
/-! What a packer's shelf uses at a node, by the program. -/
set_option linter.unusedVariables false
set_option linter.unusedSimpArgs false
namespace Go.Proofs.YtofofjfmhaggmaaGreatDoor
open Go.RowKit

/-- As Shp; blocks that hold C go on holding it. -/
def ShpC (N : Nat) (C : Array Value) (T : TypeId) (w w' : World) : Prop := Shp N w w' ∧ ∀ g : Nat, w.heap[g]? = some (.cells C T (0, 0)) → w'.heap[g]? = some (.cells C T (0, 0))
section
variable {N : Nat} {C : Array Value} {T : TypeId}
theorem ShpC.refl (w : World) : ShpC N C T w w := ⟨Shp.refl _ _, fun _ h => h⟩
theorem ShpC.trans {a b c : World} (h : ShpC N C T a b) (k : ShpC N C T b c) : ShpC N C T a c := ⟨h.1.trans k.1, fun g hg => k.2 g (h.2 g hg)⟩
theorem ShpC.of_below {w w' : World} (h : Below w.heap.size w w') : ShpC N C T w w' := ⟨Shp.of_below h, fun g hg => block_below hg h⟩
theorem ShpC.of_put {g : Nat} {w w' : World} {cs : Array Value} (h : w.heap[g]? = some (.cells cs T (0, 0))) (h' : w'.heap[g]? = some (.cells C T (0, 0))) (hs : C.size = cs.size) (k : Gb g w w') (hN : N ≤ g) : ShpC N C T w w' :=
  ⟨Shp.of_gb h h' hs k hN, fun b hb => by
    by_cases e : b = g
    · subst e; exact h'
    · exact k.block' hb e⟩
end
theorem add_ix (a b c d : Nat) (A B : Int) (hA : A = (a : Nat)) (hB : B = (b : Nat)) (h1 : a + c ≤ 4611686018427387904) (h2 : b + d ≤ 4611686018427387904) (w : World) : Calls Tryz.prog 103 #[.agg #[.int .i64 A, .int .i64 B], .agg #[.int .i64 c, .int .i64 d]] w fun e w' => e = .returned (.tuple #[.agg #[.int .i64 (A + c), .int .i64 (B + d)], .int .i64 0]) ∧ Below w.heap.size w w' := by
  subst hA hB
  have := add_is a b c d h1 h2 w
  simpa using this
theorem Gb.mods {g : Nat} {w w' : World} (h : Gb g w w') : Mod (fun k => k = g) w w' := ⟨h.os, h.tape, h.output, h.size, fun k hk hs => h.block k hk (by simpa using hs)⟩
theorem sums_le (M : Nat) : ∀ (xs : List PlaceL), (∀ x ∈ xs, x.cpu ≤ M ∧ x.mem ≤ M) → cpuS xs ≤ xs.length * M ∧ memS xs ≤ xs.length * M
  | [], _ => by simp [cpuS, memS]
  | x :: t, h => by
    obtain ⟨h1, h2⟩ := sums_le M t fun y hy => h y (List.mem_cons_of_mem _ hy)
    obtain ⟨h3, h4⟩ := h x List.mem_cons_self
    simp only [cpuS, memS, List.map_cons, List.sum_cons, List.length_cons, Nat.add_mul, Nat.one_mul] at *
    omega
theorem sums_take {xs : List PlaceL} {j : Nat} (hj : j < xs.length) : cpuS (xs.take (j + 1)) = cpuS (xs.take j) + xs[j].cpu ∧ memS (xs.take (j + 1)) = memS (xs.take j) + xs[j].mem := by
  rw [List.take_succ_eq_append_getElem hj, cpuS_append, memS_append]
  simp [cpuS, memS]
/-- What used has summed up. -/
structure ShelfR (w4 : World) (g : Nat) (L : LedL) (nm : List UInt8) (xs : List PlaceL) (j : Nat) (C M K : Int) (wr : World) : Prop where
  gb : Gb g w4 wr
  z : wr.heap[g]? = some (.cells #[.int .i64 C, .int .i64 M] 58 (0, 0))
  c : C = (L.cpu nm + cpuS (xs.take j) : Nat)
  m : M = (L.mem nm + memS (xs.take j) : Nat)
  k : K = (L.pods nm + j : Nat)
set_option maxRecDepth 100000 in
set_option maxHeartbeats 2000000 in
theorem sused_any (Q : Nat → Prop) (w : World) (S l a b : Nat) (L : LedL) (v : Value) (own : List PlaceL) (hz : w.heap[S]? = some (.cells #[.pointer (some ⟨l, 0, none⟩), v] 173 (0, 0))) (hv : PlacesQ (fun _ => False) w v own)
    (h : LedAt Q w l a b L) (hok : L.ok) (hk : L.taken.length ≤ 1073741824) (hl : own.length ≤ 8) (hc : ∀ x ∈ own, x.cpu ≤ 1099511627776 ∧ x.mem ≤ 1099511627776)
    (nm : List UInt8) (c0 m0 : Int) (a1 a2 : Value) (f : Bool) :
    Calls Tryz.prog 300 #[.pointer (some ⟨S, 0, none⟩), .agg #[.string (str nm), .int .i64 c0, .int .i64 m0, a1, a2, .bool f]] w fun e w' =>
      e = .returned (.tuple #[.agg #[.int .i64 (L.cpu nm + cpuS (onP nm own) : Nat), .int .i64 (L.mem nm + memS (onP nm own) : Nat)], .int .i64 (L.pods nm + (onP nm own).length : Nat)]) ∧ Below w.heap.size w w' := by
  have H := Lib.hid (And.intro h (And.intro hz hv))
  have HOK := Lib.hid hok
  have HC := Lib.hid hc
  clear h hz hv hok hc
  go_enter Tryz.func300, Tryz.ntmps300
  go_upto_region 1 with fail
  have z1 := block_below (alloc_at w (.cells #[.string (str nm), .int .i64 c0, .int .i64 m0, a1, a2, .bool f] 60)) (below_alloc' (Below.refl _ _) (.cells #[.int .i64 0, .int .i64 0] 58))
  have z2 := alloc_second w (.cells #[.string (str nm), .int .i64 c0, .int .i64 m0, a1, a2, .bool f] 60) (.cells #[.int .i64 0, .int .i64 0] 58)
  have hb0 : Below w.heap.size w ((w.alloc (.cells #[.string (str nm), .int .i64 c0, .int .i64 m0, a1, a2, .bool f] 60)).alloc (.cells #[.int .i64 0, .int .i64 0] 58)) := below_alloc' (below_alloc' (Below.refl _ _) _) _
  have hs0 : ((w.alloc (.cells #[.string (str nm), .int .i64 c0, .int .i64 m0, a1, a2, .bool f] 60)).alloc (.cells #[.int .i64 0, .int .i64 0] 58)).heap.size = w.heap.size + 1 + 1 := by rw [World.size_alloc, World.size_alloc]
  generalize World.alloc (World.alloc w _) _ = w2 at z1 z2 hb0 hs0 ⊢
  have hfacts : ∀ w6, Below w2.heap.size w2.drew w6 → w6.cell? ⟨S, 0, none⟩ = some (.pointer (some ⟨l, 0, none⟩)) ∧ w6.cell? ⟨w.heap.size, 0, none⟩ = some (.string (str nm)) ∧ LedAt Q w6 l a b L := fun w6 hb => by
    have hb' : Below w2.heap.size w2 w6 := (Below.refl w2.heap.size w2).drew.trans hb
    have kb := below_call hb0 hb'
    exact ⟨cell_of_block (block_below H.out.2.1 kb) 0 _ rfl, cell_of_block (block_below z1 hb') 0 _ rfl, H.out.1.below kb⟩
  have HF := Lib.hid hfacts
  have HZ1 := Lib.hid z1
  have HZ2 := Lib.hid z2
  have HB0 := Lib.hid hb0
  have HS0 := Lib.hid hs0
  clear hfacts z1 z2 hb0 hs0
  have hN : w2.heap.size ≤ w2.drew.heap.size := Nat.le_refl _
  have HN := Lib.hid hN
  clear hN
  obtain ⟨C0, hC0⟩ : ∃ C0 : Int, ((L.cpu nm : Nat) : Int) = C0 := ⟨_, rfl⟩
  obtain ⟨M0, hM0⟩ : ∃ M0 : Int, ((L.mem nm : Nat) : Int) = M0 := ⟨_, rfl⟩
  obtain ⟨K0, hK0⟩ : ∃ K0 : Int, ((L.pods nm : Nat) : Int) = K0 := ⟨_, rfl⟩
  have HU := Lib.hid (fun w6 (hL : LedAt Q w6 l a b L) => (by rw [← hC0, ← hM0, ← hK0]; exact lused_any Q w6 l a b L hL HOK.out hk nm : Calls Tryz.prog 57 #[.pointer (some ⟨l, 0, none⟩), .string (str nm)] w6 fun e w' => e = .returned (.tuple #[.agg #[.int .i64 C0, .int .i64 M0], .int .i64 K0]) ∧ Below w6.heap.size w6 w'))
  refine' Se.wp_region_pass (ShpC w2.heap.size #[.int .i64 C0, .int .i64 M0] 58) (ShpC w2.heap.size #[.int .i64 C0, .int .i64 M0] 58) 12 (by kernel_rfl) (by kernel_rfl) (by kernel_rfl) (by kernel_rfl) (by kernel_rfl) (by kernel_rfl)
    (fun w => ShpC.refl w) (fun h k => ShpC.trans h k) [] [(10, 11, fun a b => a = b)] (by simp) (by simp) ?_ (fun vals => ?_)
  case refine'_2 =>
    intro e he
    simp only [List.mem_cons, List.not_mem_nil, or_false] at he
    subst he
    exact ⟨by kernel_rfl, by decide, by decide⟩
  rotate_left
  simp only [List.take_succ_cons, List.take_zero, List.drop_succ_cons, List.drop_zero]
  iterate 3 (apply Se.pas_x (fun _ _ h => id h) rfl; (focus rfl); (focus (intro w6 hR hD hP K hK; replace hK := Lib.hid hK; skip; clear hR hD hP; go_simp; exact hK.out _ (ShpC.refl _))); simp only [Act.put, List.setIfInBounds_toArray, List.set_cons_zero, List.set_cons_succ, Nat.reduceAdd, List.cons_append, List.nil_append])
  (apply Se.pas_x (fun _ _ h => id h) rfl; (focus rfl); (focus (intro w6 hR hD hP K hK; replace hK := Lib.hid hK; obtain ⟨e0, e1, e2⟩ := HF.out w6 (hR.1 HN.out).1; clear hR hD hP; go_simp; exact hK.out _ (ShpC.refl _))); simp only [Act.put, List.setIfInBounds_toArray, List.set_cons_zero, List.set_cons_succ, Nat.reduceAdd, List.cons_append, List.nil_append])
  (apply Se.pas_x (fun _ _ h => id h) rfl; (focus rfl); (focus (intro w6 hR hD hP K hK; replace hK := Lib.hid hK; skip; clear hR hD hP; go_simp; exact hK.out _ (ShpC.refl _))); simp only [Act.put, List.setIfInBounds_toArray, List.set_cons_zero, List.set_cons_succ, Nat.reduceAdd, List.cons_append, List.nil_append])
  (apply Se.pas_x (fun _ _ h => id h) rfl; (focus rfl); (focus (intro w6 hR hD hP K hK; replace hK := Lib.hid hK; obtain ⟨e0, e1, e2⟩ := HF.out w6 (hR.1 HN.out).1; clear hR hD hP; go_simp; exact hK.out _ (ShpC.refl _))); simp only [Act.put, List.setIfInBounds_toArray, List.set_cons_zero, List.set_cons_succ, Nat.reduceAdd, List.cons_append, List.nil_append])
  (apply Se.pas_x (fun _ _ h => id h) rfl; (focus rfl); (focus (intro w6 hR hD hP K hK; replace hK := Lib.hid hK; obtain ⟨e0, e1, e2⟩ := HF.out w6 (hR.1 HN.out).1; have E2 := Lib.hid e2; clear hR hD e0 e1 e2; go_simp; refine (HU.out w6 E2.out).mono ?_; rintro e w7 ⟨rfl, hb⟩; exact hK.out _ (ShpC.of_below hb))); simp only [Act.put, List.setIfInBounds_toArray, List.set_cons_zero, List.set_cons_succ, Nat.reduceAdd, List.cons_append, List.nil_append])
  iterate 3 (apply Se.pas_x (fun _ _ h => id h) rfl; (focus rfl); (focus (intro w6 hR hD hP K hK; replace hK := Lib.hid hK; skip; clear hR hD hP; go_simp; exact hK.out _ (ShpC.refl _))); simp only [Act.put, List.setIfInBounds_toArray, List.set_cons_zero, List.set_cons_succ, Nat.reduceAdd, List.cons_append, List.nil_append])
  (apply Se.pas_r (fun v w' => New2 w2.heap.size 58 v w' ∧ w2.heap.size ≤ w'.heap.size) (fun _ _ h => id h) rfl (fun v x y h k => ⟨h.1.shp k.1 h.2, Nat.le_trans h.2 (k.1 h.2).1.size⟩); (focus rfl); (focus (intro w6 hR hD hP K hK; replace hK := Lib.hid hK; have hs : w2.heap.size ≤ w6.heap.size := (hR.1 HN.out).1.size; clear hR hD; go_simp; exact hK.out _ _ (ShpC.of_below (below_alloc' (Below.refl _ _) _)) ⟨⟨_, _, _, rfl, hs, alloc_at _ _⟩, Nat.le_trans hs (by simp)⟩)); simp only [Act.put, List.setIfInBounds_toArray, List.set_cons_zero, List.set_cons_succ, Nat.reduceAdd, List.cons_append, List.nil_append])
  (apply Se.pas_p (fun v w' => ∃ g, v = .pointer (some ⟨g, 0, none⟩) ∧ w'.heap[g]? = some (.cells #[.int .i64 C0, .int .i64 M0] 58 (0, 0))) (fun _ _ h => id h) rfl (fun v x y h k => by obtain ⟨g, h1, h2⟩ := h; exact ⟨g, h1, k.2 g h2⟩); (focus (intro w6 hR hD hP K hK; replace hK := Lib.hid hK; obtain ⟨⟨g, c0, c1, eg, hg, hz⟩, hs⟩ : New2 w2.heap.size 58 (vals 10) w6 ∧ w2.heap.size ≤ w6.heap.size := hD 10 (by kernel_rfl); simp only [eg] at hK ⊢; have k0 := cell_of_block hz 0 _ rfl; have k1 := cell_of_block hz 1 _ rfl; have kf := free_of_block hz; have HZ := Lib.hid (And.intro hz hg); clear hR hD hz hg hs; go_simp; exact hK.out (.pointer (some ⟨g, 0, none⟩)) _ (ShpC.of_put HZ.out.1 (set2 _ _ HZ.out.1) rfl ((Gb.set _ _ _ _).trans (Gb.set _ _ _ _)) HZ.out.2) ⟨g, rfl, set2 _ _ HZ.out.1⟩ (fun e he hi => by simp only [List.mem_cons, List.not_mem_nil, or_false] at he; subst he; exact eg))); simp only [Act.put, List.setIfInBounds_toArray, List.set_cons_zero, List.set_cons_succ, Nat.reduceAdd, List.cons_append, List.nil_append])
  refine Se.pas_ends (by simp [Se.AllK]) (by simp [Se.AllK]) fun w3 hR hp hsep => ?_
  obtain ⟨⟨g, c0', c1', eg, hgN, _⟩, hsz⟩ := hp 10 (by simp)
  obtain ⟨g', eg', hgz⟩ := hp 11 (by simp)
  have hse : vals 10 = vals 11 := hsep _ (List.mem_singleton.2 rfl)
  obtain rfl : g = g' := by rw [eg, eg'] at hse; injection hse with e; injection e with e; injection e
  have hb' : Below w2.heap.size w2 w3 := (Below.refl w2.heap.size w2).drew.trans (hR.1 HN.out).1
  have HB3 := Lib.hid (below_call HB0.out hb')
  have HZ3 := Lib.hid (block_below HZ1.out hb')
  have HR3 := Lib.hid (block_below HZ2.out hb')
  have HGZ := Lib.hid hgz
  have HGN := Lib.hid hgN
  simp only [eg]
  clear hp hR hb' hgz hgN eg eg' hse hsep HF HN HZ1 HZ2
  have k0 := cell_of_block HZ3.out 0 (.string (str nm)) rfl
  have k1 := cell_of_block HZ3.out 1 (.int .i64 c0) rfl
  have k2 := cell_of_block HZ3.out 2 (.int .i64 m0) rfl
  have k3 := cell_of_block HZ3.out 3 a1 rfl
  have k4 := cell_of_block HZ3.out 4 a2 rfl
  have k5 := cell_of_block HZ3.out 5 (.bool f) rfl
  go_wp2_with fail
  refine (near_any w3 S _ v own (block_below H.out.2.1 HB3.out) (Rq.below H.out.2.2 HB3.out) (by omega) nm c0 m0 a1 a2 f).mono ?_
  rintro e w4 ⟨r, rfl, hrow, hb⟩
  have hgw3 : g < w3.heap.size := (Array.getElem?_eq_some_iff.1 HGZ.out).1
  have HB4 := Lib.hid (below_call HB3.out hb)
  have HR4 := Lib.hid (block_below HR3.out hb)
  have HGZ4 := Lib.hid (block_below HGZ.out hb)
  obtain ⟨xs, hxs⟩ : ∃ xs, onP nm own = xs := ⟨_, rfl⟩
  rw [hxs] at hrow
  have hxl : xs.length ≤ 8 := by rw [← hxs]; exact Nat.le_trans (onP_len_le _ _) hl
  have hxc : ∀ x ∈ xs, x.cpu ≤ 1099511627776 ∧ x.mem ≤ 1099511627776 := fun x hx => HC.out x (by rw [← hxs] at hx; exact (List.mem_filter.1 hx).1)
  have HXC := Lib.hid hxc
  have HXS := Lib.hid hxs
  have hpq : PlacesQ (fun k => k < w3.heap.size) w4 r xs := ⟨own_base hrow (Nat.zero_le _), fun k hk hlt => by have := (own_lt hrow hk).1; omega⟩
  obtain ⟨xa, xc, rfl, hcs⟩ := flat_cells hpq
  have HPQ := Lib.hid hpq
  have HCS := Lib.hid hcs
  have HGW := Lib.hid hgw3
  have HU0 := Lib.hid (And.intro hC0 (And.intro hM0 hK0))
  clear k0 k1 k2 k3 k4 k5 hb hrow hxs hxc hpq hcs hgw3 hC0 hM0 hK0 HB3 HZ3 HR3 HGZ
  go_wp2_with fail
  go_loopw [7, 26] (fun kv i wr => ∃ (j : Nat) (C M K : Int), i = .int .i64 j ∧ kv = .int .i64 K ∧ j ≤ xs.length ∧ ShelfR w4 g L nm xs j C M K wr) (fun _ i _ => xs.length - (intOf i).toNat)
  case atStart => exact ⟨0, C0, M0, K0, rfl, rfl, Nat.zero_le _, ⟨Gb.refl _ _, HGZ4.out, by simp [cpuS, HU0.out.1], by simp [memS, HU0.out.2.1], by simp [HU0.out.2.2]⟩⟩
  case round =>
    obtain ⟨j, C, M, K, rfl, rfl, hj, hR⟩ := hrel
    have HR := Lib.hid hR
    clear hR
    by_cases hjl : j < xs.length
    · have hq := HPQ.out.mod HR.out.gb.mods fun k _ hk => by rw [hk]; exact HGW.out
      obtain ⟨xa', xc', hxe, hcs⟩ := flat_cells hq
      injection hxe with e1 e2 e3
      subst e1 e3
      obtain ⟨b0, rfl, hbw, hcap, d0, d1, d2, d3, d4⟩ := hcs j hjl
      have hst := sums_take hjl
      have hxb := HXC.out xs[j] (List.getElem_mem hjl)
      have hcb := sums_le 1099511627776 (xs.take j) (fun x hx => HXC.out x (List.mem_of_mem_take hx))
      have hlt : (xs.take j).length ≤ 8 := by rw [List.length_take]; omega
      have hl1 := LedL.cpu_le HOK.out nm
      have hz := HR.out.z
      have g0 := cell_of_block (old_al (o := .cells #[.string (str xs[j].pod), .string (str xs[j].node), .int .i64 xs[j].cpu, .int .i64 xs[j].mem, .bool xs[j].alone] 143) hz) 0 (.int .i64 C) rfl
      have g1 := cell_of_block (old_al (o := .cells #[.string (str xs[j].pod), .string (str xs[j].node), .int .i64 xs[j].cpu, .int .i64 xs[j].mem, .bool xs[j].alone] 143) hz) 1 (.int .i64 M) rfl
      have hj0 : (0 : Int) ≤ (j : Int) := by omega
      have hj1 : (j : Int) < (xs.length : Int) := by omega
      have HJ := Lib.hid hjl
      have hc1 : L.cpu nm + cpuS (xs.take j) + xs[j].cpu ≤ 4611686018427387904 := by omega
      have hm1 : L.mem nm + memS (xs.take j) + xs[j].mem ≤ 4611686018427387904 := by omega
      generalize hgx : xs[j] = x at d0 d1 d2 d3 d4 hst hc1 hm1 g0 g1
      have HST := Lib.hid hst
      have HCM := Lib.hid (And.intro hc1 hm1)
      clear hq hcs hst hxb hcb hl1 hlt hz hgx hc1 hm1
      go_wp2_with fail
      refine (add_ix _ _ x.cpu x.mem C M HR.out.c HR.out.m HCM.out.1 HCM.out.2 _).mono ?_
      rintro e w5 ⟨rfl, hb⟩
      have hgb5 : Gb g w4 w5 := (HR.out.gb.alloc _).trans (Gb.of_below hb)
      have hz5 := block_below (old_al (o := .cells #[.string (str x.pod), .string (str x.node), .int .i64 x.cpu, .int .i64 x.mem, .bool x.alone] 143) HR.out.z) hb
      have hz6 := old_al (o := .cells #[.int .i64 (C + (x.cpu : Int)), .int .i64 (M + (x.mem : Int))] 58) hz5
      have HGB6 := Lib.hid (hgb5.alloc (.cells #[.int .i64 (C + (x.cpu : Int)), .int .i64 (M + (x.mem : Int))] 58))
      have HZ6 := Lib.hid hz6
      have q0 := cell_of_block hz6 0 (.int .i64 C) rfl
      have q1 := cell_of_block hz6 1 (.int .i64 M) rfl
      have qf := free_of_block hz6
      have hK := HR.out.k
      have HK := Lib.hid hK
      have hp := LedL.pods_le HOK.out nm
      have hk0 : 0 ≤ K := by omega
      have hk1 : K + 1 ≤ 4611686018427387904 := by omega
      clear hb hgb5 hz5 hz6 d0 d1 d2 d3 d4 g0 g1 hK hp
      go_wp2
      go_roundw
      case rel =>
        refine ⟨j + 1, C + x.cpu, M + x.mem, K + 1, by go_num, rfl, HJ.out, (HGB6.out.trans (Gb.set _ _ _ _)).trans (Gb.set _ _ _ _), set2 _ _ HZ6.out, ?_, ?_, ?_⟩
        · have := HR.out.c; rw [HST.out.1]; omega
        · have := HR.out.m; rw [HST.out.2]; omega
        · have := HK.out; omega
      case measure => have := HJ.out; simp [intOf]; omega
    · obtain rfl : j = xs.length := by omega
      have hr4 := HR.out.gb.block' HR4.out (by have := HGN.out; have := HS0.out; omega)
      have g0 := cell_of_block HR.out.z 0 (.int .i64 C) rfl
      have g1 := cell_of_block HR.out.z 1 (.int .i64 M) rfl
      have r0 := cell_of_block hr4 0 (.int .i64 0) rfl
      have r1 := cell_of_block hr4 1 (.int .i64 0) rfl
      have rf := free_of_block hr4
      have HRR := Lib.hid hr4
      have HBR := Lib.hid (show Below w.heap.size w wr from Gb.below HB4.out HR.out.gb (by have := HGN.out; have := HS0.out; omega) HB4.out.size)
      clear hr4
      go_wp2_with fail
      have hq := set2 (.int .i64 C) (.int .i64 M) HRR.out
      have hbq := (HBR.out.setCell (p := ⟨w.heap.size + 1, 0, none⟩) (by simp) (.int .i64 C)).setCell (p := ⟨w.heap.size + 1, 1, none⟩) (by simp) (.int .i64 M)
      generalize World.setCell (World.setCell wr _ _) _ _ = y2 at hq hbq ⊢
      have q0 := cell_of_block hq 0 (.int .i64 C) rfl
      have q1 := cell_of_block hq 1 (.int .i64 M) rfl
      have hC := HR.out.c
      have hM := HR.out.m
      have hK := HR.out.k
      rw [List.take_length, ← HXS.out] at hC hM
      rw [← HXS.out] at hK
      exact bodyPost_ret (v := .tuple #[.agg #[.int .i64 C, .int .i64 M], .int .i64 K]) (by simp [results, Tryz.results300, go_sem, q0, q1]) rfl ⟨by rw [hC, hM, hK], hbq⟩
end Go.Proofs.YtofofjfmhaggmaaGreatDoor
