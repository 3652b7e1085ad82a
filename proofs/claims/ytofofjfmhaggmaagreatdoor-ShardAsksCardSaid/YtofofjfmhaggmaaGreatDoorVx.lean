/- Where all pods of a gang go, by the program. -/
import Derived.Test.YtofofjfmhaggmaaGreatDoorVw
set_option linter.unusedVariables false
set_option linter.unusedSimpArgs false
namespace Go.Proofs.YtofofjfmhaggmaaGreatDoor
open Go.RowKit

def PodC (Q : Nat → Prop) (w : World) (cs : List Value) (p : PodL) : Prop :=
  ∃ u x, cs = [.string (str p.name), .int .i64 p.shard, .int .i64 p.cpu, .int .i64 p.mem, u, x, .bool p.alone] ∧ StrsQ Q w u p.picks ∧ StrsQ Q w x p.bears
def PodsQ (Q : Nat → Prop) (w : World) (v : Value) (ps : List PodL) : Prop :=
  ∃ c, Rq Q w 62 7 v ps.length (flat ps.length c) ∧ ∀ i (hi : i < ps.length), PodC Q w (c i) ps[i]
section
variable {Q Q' S : Nat → Prop} {w w' : World} {v : Value}
theorem PodC.mod {cs : List Value} {p : PodL} (h : PodC Q w cs p) (k : Mod S w w') (hS : ∀ g, g < w.heap.size → S g → Q g) : PodC Q w' cs p := by
  obtain ⟨u, x, e, h1, h2⟩ := h
  exact ⟨u, x, e, h1.mod k hS, h2.mod k hS⟩
theorem PodC.below {cs : List Value} {p : PodL} (h : PodC Q w cs p) (k : Below w.heap.size w w') : PodC Q w' cs p := by
  obtain ⟨u, x, e, h1, h2⟩ := h
  exact ⟨u, x, e, h1.below k, h2.below k⟩
theorem PodsQ.mod {ps : List PodL} (h : PodsQ Q w v ps) (k : Mod S w w') (hS : ∀ g, g < w.heap.size → S g → Q g) : PodsQ Q w' v ps := by
  obtain ⟨c, h1, h2⟩ := h
  exact ⟨c, Rq.mod h1 k hS, fun i hi => (h2 i hi).mod k hS⟩
theorem PodsQ.below {ps : List PodL} (h : PodsQ Q w v ps) (k : Below w.heap.size w w') : PodsQ Q w' v ps := by
  obtain ⟨c, h1, h2⟩ := h
  exact ⟨c, Rq.below h1 k, fun i hi => (h2 i hi).below k⟩
end
theorem own_other {w : World} {base n size g : Nat} {e e' : TypeId} {v : Value} {xs : List Value} {cs : Array Value} (h : w.ownsRow base e size v n xs) (hg : w.heap[g]? = some (.cells cs e' (0, 0))) (hne : e ≠ e') : v.ownBlock ≠ some g := fun hv => by
  obtain ⟨ds, hd⟩ := own_typed h g hv
  rw [hd] at hg
  injection hg with hg
  injection hg with _ hg
  exact hne hg
/-- A row of pods, cell by cell. -/
theorem pods_at {Q : Nat → Prop} {w : World} {v : Value} {ns : List PodL} (h : PodsQ Q w v ns) : ∃ a c, v = .slice a ns.length c ∧ ∀ i (hi : i < ns.length), ∃ b u x, a = some ⟨b, 0, none⟩ ∧ b < w.heap.size ∧ ns.length ≤ c ∧
    w.cell? ⟨b, i * 7, none⟩ = some (.string (str ns[i].name)) ∧ w.cell? ⟨b, i * 7 + 1, none⟩ = some (.int .i64 ns[i].shard) ∧ w.cell? ⟨b, i * 7 + 2, none⟩ = some (.int .i64 ns[i].cpu) ∧ w.cell? ⟨b, i * 7 + 3, none⟩ = some (.int .i64 ns[i].mem) ∧ w.cell? ⟨b, i * 7 + 4, none⟩ = some u ∧ w.cell? ⟨b, i * 7 + 5, none⟩ = some x ∧ w.cell? ⟨b, i * 7 + 6, none⟩ = some (.bool ns[i].alone) ∧
    StrsQ Q w u ns[i].picks ∧ StrsQ Q w x ns[i].bears := by
  obtain ⟨c, hr, hc⟩ := h
  have hl : ∀ i, i < ns.length → (c i).length = 7 := fun i hi => by obtain ⟨u, x, e, _⟩ := hc i hi; rw [e]; rfl
  rcases own_forms hr.1 with ⟨rfl, h0, h1⟩ | ⟨g, cap, rfl, _, hg⟩
  · exact ⟨_, _, by rw [h0], fun i hi => by omega⟩
  · refine ⟨_, _, rfl, fun i hi => ?_⟩
    obtain ⟨u, x, e, h1, h2⟩ := hc i hi
    obtain ⟨_, cap', cur, e1, _, _, hcap, _⟩ := hr.1.2.resolve_left (by rintro ⟨h, _⟩; cases h)
    injection e1 with _ _ e3
    have k : ∀ j, j < 7 → w.cell? ⟨g, i * 7 + j, none⟩ = (c i)[j]? := fun j hj => by
      rw [hr.1.cellAt (i * 7 + j) (by omega), flat_get hl hi hj]
    rw [e] at k
    exact ⟨g, u, x, rfl, hg, by omega, k 0 (by omega), k 1 (by omega), k 2 (by omega), k 3 (by omega), k 4 (by omega), k 5 (by omega), k 6 (by omega), h1, h2⟩
/-- Pods that packing may take in. -/
def PodL.okay (p : PodL) : Prop := p.cpu ≤ 1099511627776 ∧ p.mem ≤ 1099511627776 ∧ p.picks.length ≤ 4294967280 ∧ p.bears.length ≤ 4294967280
theorem allL_append (L : LedL) (mode : Int) : ∀ (l m : List PodL) (own : List PlaceL), allL L mode own (l ++ m) = (allL L mode own l).bind fun o => allL L mode o m
  | [], m, own => rfl
  | a :: l, m, own => by
    simp only [List.cons_append, allL]
    cases placeL L mode own a with
    | none => rfl
    | some x => exact allL_append L mode l m (own ++ [x])
theorem allL_step {L : LedL} {mode : Int} {ps : List PodL} {j : Nat} {own : List PlaceL} {p : PodL} {x : PlaceL} (hj : j < ps.length) (hp : ps[j] = p) (h : allL L mode [] (ps.take j) = some own) (hx : placeL L mode own p = some x) : allL L mode [] (ps.take (j + 1)) = some (own ++ [x]) := by
  rw [List.take_succ_eq_append_getElem hj, allL_append, h, hp]
  simp [allL, hx]
theorem allL_fails {L : LedL} {mode : Int} {ps : List PodL} {j : Nat} {own : List PlaceL} {p : PodL} (hj : j < ps.length) (hp : ps[j] = p) (h : allL L mode [] (ps.take j) = some own) (hx : placeL L mode own p = none) : allL L mode [] ps = none := by
  have e := allL_append L mode (ps.take j) (ps.drop j) []
  rw [List.take_append_drop] at e
  rw [e, h, List.drop_eq_getElem_cons hj, hp]
  simp [allL, hx]
theorem placeL_is {L : LedL} {mode : Int} {own : List PlaceL} {p : PodL} {x : PlaceL} (h : placeL L mode own p = some x) : x.pod = p.name ∧ x.cpu = p.cpu ∧ x.mem = p.mem ∧ x.alone = p.alone := by
  unfold placeL at h
  simp only at h
  split at h
  · cases h
  · injection h with h
    rw [← h]
    exact ⟨rfl, rfl, rfl, rfl⟩
/-- What all has done. -/
structure AllR (w : World) (l : Nat) (own : List PlaceL) (v : Value) (wr : World) : Prop where
  bl : Below w.heap.size w wr
  z : wr.heap[w.heap.size]? = some (.cells #[.pointer (some ⟨l, 0, none⟩), v] 173 (0, 0))
  row : wr.ownsRow w.heap.size 143 5 v own.length (own.flatMap placeV)
/-- What all hands back. -/
def AllPost (w : World) (r : Option (List PlaceL)) (e : Ending) (w' : World) : Prop :=
  (match r with
    | none => e = .returned (.tuple #[.slice none 0 0, .int .i64 6])
    | some out => ∃ r, e = .returned (.tuple #[r, .int .i64 0]) ∧ w'.ownsRow w.heap.size 143 5 r out.length (out.flatMap placeV)) ∧ Below w.heap.size w w'
set_option maxRecDepth 100000 in
set_option maxHeartbeats 4000000 in
theorem all_any (Q : Nat → Prop) (w : World) (l a b : Nat) (L : LedL) (nv pv : Value) (ps : List PodL) (mode : Int) (hT : Tops w) (hQ : ∀ g, Q g → g < w.heap.size)
    (h : LedAt Q w l a b L) (hok : L.ok) (hk : L.taken.length ≤ 1073741824) (hn : NodesQ Q w nv L.sorted) (hp : PodsQ Q w pv ps) (hps : ps ≠ []) (hl : ps.length ≤ 8) (hpo : ∀ p ∈ ps, p.okay) :
    Calls Tryz.prog 100 #[pv, nv, .iface 171 (.pointer (some ⟨w.heap.size, 0, none⟩)), .int .i64 mode] (w.alloc (.cells #[.pointer (some ⟨l, 0, none⟩), .slice none 0 0] 173)) (AllPost w (allL L mode [] ps)) := by
  obtain ⟨pa, pc, rfl, hpc⟩ := pods_at hp
  have hta : ∀ w1, (Instr.typeAssert (.iface 171 (.pointer (some ⟨w.heap.size, 0, none⟩))) 195 171 true).run Tryz.prog w1 = .ok (.tuple #[.pointer (some ⟨w.heap.size, 0, none⟩), .bool true]) w1 := fun _ => by kernel_rfl
  have H := Lib.hid (And.intro h hn)
  have HOK := Lib.hid hok
  have HQ := Lib.hid hQ
  have HT := Lib.hid hT
  have HP := Lib.hid hpc
  have HPO := Lib.hid hpo
  have HPS := Lib.hid hps
  obtain ⟨na, nc, rfl, -⟩ := nodes_at hn
  clear h hok hQ hT hpc hpo hps hn hp
  go_enter Tryz.func100, Tryz.ntmps100
  have hR0 : AllR w l [] (.slice none 0 0) (w.alloc (.cells #[.pointer (some ⟨l, 0, none⟩), .slice none 0 0] 173)) := ⟨below_alloc' (Below.refl _ _) _, alloc_at _ _, World.ownsRow_nil _ _ _ _⟩
  generalize World.alloc w _ = w1 at hR0 ⊢
  have HR0 := Lib.hid hR0
  clear hR0
  go_wp2_with fail
  go_loopw [25] (fun i wr => ∃ (j : Nat) (own : List PlaceL) (v : Value), i = .int .i64 j ∧ j ≤ ps.length ∧ allL L mode [] (ps.take j) = some own ∧ own.length = j ∧ (∀ x ∈ own, x.cpu ≤ 1099511627776 ∧ x.mem ≤ 1099511627776) ∧ AllR w l own v wr) (fun i _ => ps.length - (intOf i).toNat)
  case atStart => exact ⟨0, [], _, rfl, Nat.zero_le _, rfl, rfl, by simp, HR0.out⟩
  case round =>
    obtain ⟨j, own, v, rfl, hj, hall, hol, hoc, hR⟩ := hrel
    have HA := Lib.hid (And.intro hall (And.intro hol hoc))
    have HR := Lib.hid hR
    clear hall hol hoc hR
    by_cases hjl : j < ps.length
    · obtain ⟨b0, pu, px, rfl, hbw, hcap, d0, d1, d2, d3, d4, d5, d6, hpu, hpx⟩ := HP.out j hjl
      have d0 := cell_below d0 HR.out.bl
      have d1 := cell_below d1 HR.out.bl
      have d2 := cell_below d2 HR.out.bl
      have d3 := cell_below d3 HR.out.bl
      have d4 := cell_below d4 HR.out.bl
      have d5 := cell_below d5 HR.out.bl
      have d6 := cell_below d6 HR.out.bl
      have hpu := hpu.below HR.out.bl
      have hpx := hpx.below HR.out.bl
      have hok := HPO.out ps[j] (List.getElem_mem hjl)
      generalize hgx : ps[j] = p at d0 d1 d2 d3 d4 d5 d6 hpu hpx hok
      obtain ⟨ua, uc, rfl, -⟩ := strs_cells hpu
      obtain ⟨xa, xc, rfl, -⟩ := strs_cells hpx
      have HPQ := Lib.hid (And.intro hpu hpx)
      have HPK := Lib.hid hok
      have HGX := Lib.hid hgx
      have HJ := Lib.hid hjl
      have hj0 : (0 : Int) ≤ (j : Int) := by omega
      have hj1 : (j : Int) < (ps.length : Int) := by omega
      clear hpu hpx hok hgx
      go_wp2_with fail
      have hb2 : Below w.heap.size w (wr.alloc (.cells #[.string (str p.name), .int .i64 p.shard, .int .i64 p.cpu, .int .i64 p.mem, .slice ua p.picks.length uc, .slice xa p.bears.length xc, .bool p.alone] 62)) := below_alloc' HR.out.bl _
      have hb3 : Below wr.heap.size wr (wr.alloc (.cells #[.string (str p.name), .int .i64 p.shard, .int .i64 p.cpu, .int .i64 p.mem, .slice ua p.picks.length uc, .slice xa p.bears.length xc, .bool p.alone] 62)) := below_alloc' (Below.refl _ _) _
      generalize World.alloc wr _ = w2 at hb2 hb3 ⊢
      refine (place_any Q w2 w.heap.size l a b L v _ _ own p mode (HT.out.below hb2) (fun g hg => Nat.lt_of_lt_of_le (HQ.out g hg) hb2.size) (block_below HR.out.z hb3) ⟨own_base (own_below HR.out.row hb3) (Nat.zero_le _), fun _ _ h => h⟩ (H.out.1.below hb2) HOK.out hk (by have := HA.out.2.1; omega) HA.out.2.2 (H.out.2.below hb2) ⟨_, _, rfl, HPQ.out.1.below hb3, HPQ.out.2.below hb3⟩ HPK.out.1 HPK.out.2.1 HPK.out.2.2.1 HPK.out.2.2.2).mono ?_
      rintro e w3 ⟨rfl, hb⟩
      have HB3 := Lib.hid (below_call hb3 hb)
      obtain ⟨r, hr⟩ : ∃ r, placeL L mode own p = r := ⟨_, rfl⟩
      have HPR := Lib.hid hr
      rw [hr]
      clear d0 d1 d2 d3 d4 d5 d6 hb2 hb3 hb hr
      cases r with
      | none =>
        have HE := Lib.hid (allL_fails HJ.out HGX.out HA.out.1 HPR.out)
        unfold placeE
        go_wp2
        go_ret2
        rw [HE.out]
        exact ⟨rfl, below_alloc' (HR.out.bl.trans (HB3.out.mono HR.out.bl.size)) _⟩
      | some x =>
        unfold placeE
        go_upto_region 10 with fail
        obtain ⟨va, vc, rfl⟩ := own_slicen HR.out.row
        have z4 := alloc_at w3 (.cells #[.string (str x.pod), .string (str x.node), .int .i64 x.cpu, .int .i64 x.mem, .bool x.alone] 143)
        have hb4 : Below w3.heap.size w3 (w3.alloc (.cells #[.string (str x.pod), .string (str x.node), .int .i64 x.cpu, .int .i64 x.mem, .bool x.alone] 143)) := below_alloc' (Below.refl _ _) _
        generalize World.alloc w3 _ = w4 at z4 hb4 ⊢
        have hbw4 := below_call HB3.out hb4
        have hS4 := block_below HR.out.z hbw4
        have hrow4 := own_below HR.out.row hbw4
        have hneS := own_other HR.out.row HR.out.z (by decide)
        have hSz : w.heap.size < wr.heap.size := (Array.getElem?_eq_some_iff.1 HR.out.z).1
        have h34 : w3.heap.size < w4.heap.size := (Array.getElem?_eq_some_iff.1 z4).1
        have h3 : wr.heap.size ≤ w3.heap.size := HB3.out.size
        have HL := Lib.hid (fun g (h : Value.ownBlock (.slice va own.length vc) = some g) => (show w.heap.size ≤ g ∧ g ≠ w.heap.size ∧ g ≠ w3.heap.size by
          have := own_lt HR.out.row h
          exact ⟨this.1, fun e => hneS (by rw [h, e]), by omega⟩))
        have hN4 : w.heap.size ≤ w4.drew.heap.size := by show w.heap.size ≤ w4.heap.size; omega
        have HN4 := Lib.hid hN4
        have hf : ∀ w6, LowK w.heap.size w.heap.size w3.heap.size w4.drew w6 → w6.heap[w.heap.size]? = some (.cells #[.pointer (some ⟨l, 0, none⟩), .slice va own.length vc] 173 (0, 0)) ∧
            w6.heap[w3.heap.size]? = some (.cells #[.string (str x.pod), .string (str x.node), .int .i64 x.cpu, .int .i64 x.mem, .bool x.alone] 143 (0, 0)) ∧ Below w.heap.size w w6 ∧ w4.heap.size ≤ w6.heap.size := fun w6 hb => by
          have hx : ∀ k, k = w.heap.size ∨ k = w3.heap.size → k < w4.heap.size → w6.heap[k]? = w4.heap[k]? := fun k h1 h2 => hb.2 k h1 h2
          have hb' : Below w.heap.size w4 w6 := (Below.refl _ w4).drew.trans (hb.1 HN4.out)
          exact ⟨(hx _ (.inl rfl) (by omega)).trans hS4, (hx _ (.inr rfl) h34).trans z4, (HR.out.bl.trans (hbw4.mono (by omega))).trans hb', hb'.size⟩
        have HF := Lib.hid hf
        have HROW := Lib.hid hrow4
        have hol : own.length ≤ 8 := by have := HA.out.2.1; omega
        clear hf hrow4 hN4 h3 h34 hSz hneS hS4 hbw4 hb4 z4
        refine' Se.wp_region_pass (fun w w' => Below w.heap.size w w') (LowK w.heap.size w.heap.size w3.heap.size) 10 (by kernel_rfl) (by kernel_rfl) (by kernel_rfl) (by kernel_rfl) (by kernel_rfl) (by kernel_rfl)
          (fun w => LowK.refl w) (fun h k => LowK.trans h k) [(fun w3 => w3.ownsRow w.heap.size 143 5 (.slice va own.length vc) own.length (own.flatMap placeV), 7)] [] ?_ ?_ (by simp) (fun vals => ?_)
        case refine'_2 =>
          simp only [List.forall_mem_cons]
          exact ⟨own_drew HROW.out, by simp⟩
        case refine'_3 =>
          simp only [List.forall_mem_cons]
          exact ⟨fun w1 w2 k h => own_below h k, by simp⟩
        rotate_left
        simp only [List.take_succ_cons, List.take_zero, List.drop_succ_cons, List.drop_zero]
        iterate 4 (apply Se.pas_x (fun _ _ h => LowK.of_below h) rfl; (focus rfl); (focus (intro w6 hR hD hP K hK; replace hK := Lib.hid hK; skip; clear hR hD hP; go_simp; exact hK.out _ (Below.refl _ _))); simp only [Act.put, List.setIfInBounds_toArray, List.set_cons_zero, List.set_cons_succ, Nat.reduceAdd, List.cons_append, List.nil_append])
        (apply Se.pas_x (fun _ _ h => LowK.of_below h) rfl; (focus rfl); (focus (intro w6 hR hD hP K hK; replace hK := Lib.hid hK; have c1 := cell_of_block (HF.out w6 hR).1 1 (.slice va own.length vc) rfl; clear hR hD hP; go_simp; exact hK.out _ (Below.refl _ _))); simp only [Act.put, List.setIfInBounds_toArray, List.set_cons_zero, List.set_cons_succ, Nat.reduceAdd, List.cons_append, List.nil_append])
        (apply Se.pas_x (fun _ _ h => LowK.of_below h) rfl; (focus rfl); (focus (intro w6 hR hD hP K hK; replace hK := Lib.hid hK; obtain ⟨e0, e1, e2, e3, e4⟩ := cells5 (HF.out w6 hR).2.1; clear hR hD hP; go_simp; exact hK.out _ (Below.refl _ _))); simp only [Act.put, List.setIfInBounds_toArray, List.set_cons_zero, List.set_cons_succ, Nat.reduceAdd, List.cons_append, List.nil_append])
        (apply Se.pas_r (fun v w' => ∃ g, v = .slice (some ⟨g, 0, none⟩) 1 1 ∧ Value.ownBlock (.slice va own.length vc) ≠ some g ∧ w'.heap[g]? = some (.cells #[.string (str x.pod), .string (str x.node), .int .i64 x.cpu, .int .i64 x.mem, .bool x.alone] 143 (0, 0))) (fun _ _ h => LowK.of_below h) rfl (fun v w1 w2 h k => by obtain ⟨g, h1, h2, h3⟩ := h; exact ⟨g, h1, h2, block_below h3 k⟩); (focus rfl); (focus (intro w6 hR hD hP K hK; replace hK := Lib.hid hK; have hown := hP _ (List.mem_cons_self ..) (.inr (by kernel_rfl)); have HO := Lib.hid (fun e => Nat.lt_irrefl _ (hown.lt _ e).2 : Value.ownBlock (.slice va own.length vc) ≠ some w6.heap.size); clear hR hD hP hown; go_simp; exact hK.out _ _ (below_alloc' (Below.refl _ _) _) ⟨_, rfl, HO.out, alloc_at _ _⟩)); simp only [Act.put, List.setIfInBounds_toArray, List.set_cons_zero, List.set_cons_succ, Nat.reduceAdd, List.cons_append, List.nil_append])
        (apply Se.pas_s (fun w w' => w.grownBy w' (Value.ownBlock (.slice va own.length vc))) (fun v w' => w'.ownsRow w.heap.size 143 5 v (own.length + 1) (own.flatMap placeV ++ placeV x)) (fun _ _ h => LowK.of_gr (fun g hg => HL.out g hg) h) rfl (fun v w1 w2 h k => own_below h k); (focus rfl); (focus (intro w6 hR hD hP K hK; replace hK := Lib.hid hK; obtain ⟨g, eg, _, hg2⟩ : ∃ g, vals 6 = .slice (some ⟨g, 0, none⟩) 1 1 ∧ Value.ownBlock (.slice va own.length vc) ≠ some g ∧ w6.heap[g]? = some (.cells #[.string (str x.pod), .string (str x.node), .int .i64 x.cpu, .int .i64 x.mem, .bool x.alone] 143 (0, 0)) := hD 6 (by kernel_rfl); have hown := hP _ (List.mem_cons_self ..) (.inl rfl); have hsz : w.heap.size ≤ w6.heap.size := (HF.out w6 hR).2.2.1.size; clear hD hP hR; simp only [eg] at hK ⊢; exact Aq.wp_app_kp elt_places (.tmp 43) (.tmp 45) rfl (v := .slice va own.length vc) (n := own.length) (m := 1) (c := 1) (ad := ⟨g, 0, none⟩) (news := placeV x) rfl rfl hown rfl (Aq.news_at hg2) (by simp [placeV, Value.oneCell']) (by omega) hsz (fun v' w' h1 h3 h4 => hK.out _ _ h3 h1))); simp only [Act.put, List.setIfInBounds_toArray, List.set_cons_zero, List.set_cons_succ, Nat.reduceAdd, List.cons_append, List.nil_append])
        iterate 2 (apply Se.pas_x (fun _ _ h => LowK.of_below h) rfl; (focus rfl); (focus (intro w6 hR hD hP K hK; replace hK := Lib.hid hK; skip; clear hR hD hP; go_simp; exact hK.out _ (Below.refl _ _))); simp only [Act.put, List.setIfInBounds_toArray, List.set_cons_zero, List.set_cons_succ, Nat.reduceAdd, List.cons_append, List.nil_append])
        refine Se.pas_ends ?_ ?_ fun w6 hR hp _ => ?_
        · simp only [Se.AllK, true_and, and_true, true_or, or_true, Nat.reduceAdd]
          refine .inr (.inr ?_)
          intro v w1 w2 _ hg h
          obtain ⟨g, h1, h2, h3⟩ := h
          exact ⟨g, h1, h2, Aq.block_kept h3 hg h2⟩
        · simp only [Se.AllK, true_and, and_true, Nat.reduceAdd]
          intro e he
          simp only [List.mem_cons, List.not_mem_nil, or_false] at he
          subst he
          exact .inl rfl
        have h7 : w6.ownsRow w.heap.size 143 5 (vals 7) (own.length + 1) (own.flatMap placeV ++ placeV x) := hp 7 (by simp)
        have hz6 := (HF.out w6 hR).1
        have hbl6 := (HF.out w6 hR).2.2.1
        have HNW := Lib.hid (And.intro h7 (And.intro hz6 hbl6))
        have c1 := cell_of_block hz6 1 (.slice va own.length vc) rfl
        have cf := free_of_block hz6
        clear hp h7 hz6 hbl6 hR
        generalize vals 7 = v7 at HNW ⊢
        obtain ⟨ta, tc, rfl⟩ := own_slicen HNW.out.1
        go_wp2
        go_roundw
        case rel =>
          refine ⟨j + 1, own ++ [x], .slice ta (own.length + 1) tc, by go_num, HJ.out, allL_step HJ.out HGX.out HA.out.1 HPR.out, by rw [List.length_append, HA.out.2.1]; rfl, fun y hy => ?_, ?_⟩
          · rcases List.mem_append.1 hy with hy | hy
            · exact HA.out.2.2 y hy
            · obtain rfl := List.mem_singleton.1 hy
              have := placeL_is HPR.out
              rw [this.2.1, this.2.2.1]
              exact ⟨HPK.out.1, HPK.out.2.1⟩
          · refine ⟨HNW.out.2.2.setCell (p := ⟨w.heap.size, 1, none⟩) (Nat.le_refl _) _, set2b _ HNW.out.2.1, ?_⟩
            have hm := own_mod HNW.out.1 (Gb.set w6 w.heap.size 1 (.slice ta (own.length + 1) tc)).mods fun g hg hs => own_other HNW.out.1 HNW.out.2.1 (by decide) (by rw [hg, hs])
            rw [List.length_append, List.flatMap_append]
            simpa using hm
        case measure => have := HJ.out; simp [intOf]; omega
    · obtain rfl : j = ps.length := by omega
      have HE := Lib.hid (show allL L mode [] ps = some own by have := HA.out.1; rwa [List.take_length] at this)
      have hop : 0 < own.length := by rw [HA.out.2.1]; exact List.length_pos_iff.2 HPS.out
      have hol : own.length ≤ 8 := by rw [HA.out.2.1]; exact hl
      obtain ⟨g, cap, rfl, _, hgs⟩ := (own_forms HR.out.row).resolve_left (by rintro ⟨_, h, _⟩; omega)
      have c1 := cell_of_block HR.out.z 1 (.slice (some ⟨g, 0, none⟩) own.length cap) rfl
      have HCC := Lib.hid (own_cells HR.out.row)
      have HLL := Lib.hid (places_len own)
      go_wp2_with (at_builtin; refine list_appends elt_places _ _ rfl rfl rfl rfl (World.ownsRow_nil wr wr.heap.size _ _) HLL.out (fun j u hu => HCC.out j u hu) (one_places own) (by omega) (Nat.le_refl _) ?_; intro v'' w'' hown hgrow; have HO := Lib.hid (And.intro hown (Below.grown (Below.refl wr.heap.size wr) hgrow (Nat.le_refl _) (fun k hk => by cases hk))); clear hown hgrow)
      go_ret2
      rw [HE.out]
      refine ⟨⟨_, rfl, ?_⟩, HR.out.bl.trans (HO.out.2.mono HR.out.bl.size)⟩
      have := HO.out.1
      rw [List.nil_append, Nat.zero_add] at this
      exact own_base this HR.out.bl.size
end Go.Proofs.YtofofjfmhaggmaaGreatDoor
