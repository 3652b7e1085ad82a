/- One message taken out of a row: slices.Delete of one element. -/
import Derived.Test.YtpkkjonajimefaaDoorK
import Derived.Deep.RegionLaw
import Derived.Lib.SliceRun
set_option linter.unusedVariables false
set_option linter.unusedSimpArgs false
namespace Go.Proofs.YtpkkjonajimefaaDoor
open Go.RowKit

theorem zero_any (w : World) : (zeroValue 20).run Tryd.prog w = .ok .nilIface w := by kernel_rfl
theorem info_any : (Tryd.prog.info? 20).map (fun i => (i.zero, i.size, i.bytes)) = some (some .nilIface, 1, 16) := by kernel_rfl

set_option maxHeartbeats 4000000 in
set_option maxRecDepth 100000 in
theorem delete_walk (g off cap n i : Nat) (f : Nat → Value) (w : World) (hone : ∀ t, (f t).oneCell' = true) (hc : ∀ t, t < n → w.cell? ⟨g, off + t, none⟩ = some (f t) ∧ w.frozen? ⟨g, off + t, none⟩ = false) (hcap : n ≤ cap) (hm : cap ≤ 9223372036854775807) (hi : i < n) :
    Calls Tryd.prog 89 #[.slice (some ⟨g, off, none⟩) n cap, .int .i64 i, .int .i64 ((i + 1 : Nat) : Int)] w fun e w' =>
      e = .returned (.slice (some ⟨g, off, none⟩) (i + (n - (i + 1))) cap) ∧ w' = (w.drew.setCells g (off + i * 1) ((List.range (n - (i + 1))).map fun t => f (i + 1 + t))).setCells g (off + (i + (n - (i + 1)))) (List.replicate (n - (i + (n - (i + 1)))) .nilIface) := by
  obtain ⟨i0, hi0, hz0, hz1, hz2⟩ := info_parts info_any
  obtain ⟨j, hj⟩ : ∃ j, j = i + 1 := ⟨_, rfl⟩
  have hij : ¬ i = j := by omega
  rw [← hj]
  obtain ⟨news, hnews⟩ : ∃ news, news = (List.range (n - j)).map fun t => f (j + t) := ⟨_, rfl⟩
  have hlen : news.length = n - j := by rw [hnews]; simp
  have hget : ∀ t, t < n - j → news[t]? = some (f (j + t)) := by
    intro t ht
    rw [hnews, List.getElem?_map, List.getElem?_range ht]
    rfl
  rw [← hnews]
  obtain ⟨A, hA, hsrc⟩ : ∃ A : Addr, (if cap = j then some (⟨g, off, none⟩ : Addr) else some ⟨g, off + j, none⟩) = some A ∧ Hid (∀ t u, news[t]? = some u → w.drew.cell? (A.add t) = some u) := by
    by_cases h : cap = j
    · refine ⟨⟨g, off, none⟩, by simp [h], fun t u hu => ?_⟩
      have h0 : news.length = 0 := by rw [hlen]; omega
      rw [List.length_eq_zero_iff.1 h0] at hu
      simp at hu
    · refine ⟨⟨g, off + j, none⟩, by simp [h], fun t u hu => ?_⟩
      have ht : t < n - j := by
        have := (List.getElem?_eq_some_iff.1 hu).1
        rwa [hlen] at this
      rw [hget t ht] at hu
      rw [show (⟨g, off + j, none⟩ : Addr).add t = ⟨g, off + (j + t), none⟩ by unfold Addr.add; split <;> simp_all <;> omega]
      exact (hc (j + t) (by omega)).1.trans hu
  have s1 : Hid (news.length = (n - j) * 1) := by rw [Nat.mul_one]; exact hlen
  have s2 : Hid (∀ u ∈ news, u.oneCell' = true) := by
    intro u hu
    rw [hnews] at hu
    obtain ⟨x, _, rfl⟩ := List.mem_map.1 hu
    exact hone _
  have s3 : Hid (∀ t, t < news.length → (w.drew.cell? ⟨g, off + i * 1 + t, none⟩).isSome = true ∧ w.drew.frozen? ⟨g, off + i * 1 + t, none⟩ = false) := by
    intro t ht
    rw [hlen] at ht
    rw [Nat.mul_one, Nat.add_assoc]
    exact ⟨by show (w.cell? _).isSome = true; rw [(hc (i + t) (by omega)).1]; rfl, (hc (i + t) (by omega)).2⟩
  obtain ⟨W1, hW1⟩ : ∃ W1, W1 = w.drew.setCells g (off + i * 1) news := ⟨_, rfl⟩
  have hsome : ∀ k, k < n → (W1.cell? ⟨g, off + k, none⟩).isSome = true := fun k hk => by
    rw [hW1]
    exact World.isSome_setCells g news _ _ _ (by show (w.cell? _).isSome = true; rw [(hc k hk).1]; rfl)
  have hfree : ∀ k, k < n → W1.frozen? ⟨g, off + k, none⟩ = false := fun k hk => by
    rw [hW1, World.frozen?_setCells]
    exact (hc k hk).2
  have hcl : ∀ ty, (Builtin.clear_ #[60] ty #[.slice (some ⟨g, off + (i + (n - j)), none⟩) (n - (i + (n - j))) (cap - (i + (n - j)))]).run Tryd.prog W1 = .ok (.tuple #[]) (W1.setCells g (off + (i + (n - j))) (List.replicate (n - (i + (n - j))) .nilIface)) :=
    fun ty => Lib.run_clear_slice W1 _ _ ty _ Tryd.underlying60 zero_any rfl rfl g (off + (i + (n - j))) _ _ (by omega) (fun t ht => by rw [show off + (i + (n - j)) + t = off + (i + (n - j) + t) by omega]; exact hsome _ (by omega)) (fun t ht => by rw [show off + (i + (n - j)) + t = off + (i + (n - j) + t) by omega]; exact hfree _ (by omega))
  have hW : Hid (W1 = w.drew.setCells g (off + i * 1) news) := hW1
  have hic : i ≤ cap := by omega
  have hjc : j ≤ cap := by omega
  have hjn : j ≤ n := by omega
  have hijl : i ≤ j := by omega
  rw [← hW1]
  have hji : j < i + 2 := by omega
  clear hW1 hc hget hnews hlen hsome hfree hj
  go_enter Tryd.func89, Tryd.ntmps89
  go_wp2_with fail
  go_region_law (refine step_append_room rfl (.tmp 22) (.tmp 25) 60 rfl 20 i0 1 Tryd.underlying60 hi0 hz1 g off i cap (by simp [Act.eval, Act.put]) A (n - j) (cap - j) news (by simp [Act.eval, Act.put]) s1.out hsrc.out s2.out (by omega) s3.out ?_; rw [← hW.out])
  go_wp2
  go_ret
  exact ⟨rfl, rfl⟩

/-- Values laid into an array from o on. -/
def laid (cs : Array Value) : Nat → List Value → Array Value
  | _, [] => cs
  | o, v :: r => laid (cs.setIfInBounds o v) (o + 1) r
theorem laid_size : ∀ (vs : List Value) (o : Nat) (cs : Array Value), (laid cs o vs).size = cs.size
  | [], _, _ => rfl
  | v :: r, o, cs => by rw [laid, laid_size r]; simp
theorem laid_get : ∀ (vs : List Value) (o : Nat) (cs : Array Value) (k : Nat), o + vs.length ≤ cs.size → (laid cs o vs)[k]? = if o ≤ k ∧ k < o + vs.length then vs[k - o]? else cs[k]?
  | [], o, cs, k, _ => by simp [laid]; omega
  | v :: r, o, cs, k, h => by
    simp only [List.length_cons] at h
    rw [laid, laid_get r (o + 1) _ k (by simp; omega), Array.getElem?_setIfInBounds]
    by_cases h1 : o + 1 ≤ k ∧ k < o + 1 + r.length
    · rw [if_pos h1, if_pos ⟨by omega, by simp; omega⟩, show k - o = (k - (o + 1)) + 1 by omega, List.getElem?_cons_succ]
    · rw [if_neg h1]
      by_cases h2 : o = k
      · subst h2
        rw [if_pos rfl, if_pos (by omega), if_pos ⟨Nat.le_refl _, by simp⟩]
        simp
      · rw [if_neg h2, if_neg (by simp; omega)]
theorem heap_setCells (g : Nat) (T : TypeId) : ∀ (vs : List Value) (o : Nat) (w : World) (cs : Array Value), w.heap[g]? = some (.cells cs T (0, 0)) → (w.setCells g o vs).heap[g]? = some (.cells (laid cs o vs) T (0, 0))
  | [], _, _, _, h => h
  | v :: r, o, w, cs, h => heap_setCells g T r (o + 1) _ _ (heap_setCell_same _ _ _ _ _ _ h)
theorem grew_setCells (g : Nat) : ∀ (vs : List Value) (o : Nat) (w : World) (cs : Array Value), w.heap[g]? = some (.cells cs 20 (0, 0)) → Grew (some g) w (w.setCells g o vs)
  | [], _, w, _, _ => Grew.refl _ _
  | v :: r, o, w, cs, h => by
    have hb := But.set w g o v
    have h1 : Grew (some g) w (w.setCell ⟨g, o, none⟩ v) := ⟨⟨hb.os, hb.tape, hb.output, hb.size, fun k hk hne => hb.block k hk (fun e => hne (by rw [e]))⟩, hb.still h (by simp)⟩
    exact h1.trans (grew_setCells g r (o + 1) _ _ (heap_setCell_same _ _ _ _ _ _ h))

theorem ifs_del (vs : Nat → Value) {n i : Nat} (hi : i < n) (k : Nat) : (ifs (fun k => if k < i then vs k else vs (k + 1)) (n - 1))[k]? = if k < n - 1 then some (.iface 26 (if k < i then vs k else vs (k + 1))) else none := by
  by_cases h : k < n - 1
  · rw [if_pos h, ifs_get h]
  · rw [if_neg h]
    simp [ifs]
    omega

theorem delete_any (B : Nat) (g cap n i : Nat) (vs : Nat → Value) (w : World) (h : w.ownsRow B 20 1 (.slice (some ⟨g, 0, none⟩) n cap) n (ifs vs n)) (hi : i < n) :
    Calls Tryd.prog 89 #[.slice (some ⟨g, 0, none⟩) n cap, .int .i64 i, .int .i64 ((i + 1 : Nat) : Int)] w fun e w' =>
      e = .returned (.slice (some ⟨g, 0, none⟩) (n - 1) cap) ∧ w'.ownsRow B 20 1 (.slice (some ⟨g, 0, none⟩) (n - 1) cap) (n - 1) (ifs (fun k => if k < i then vs k else vs (k + 1)) (n - 1)) ∧ Grew (some g) w w' := by
  have h' := h
  obtain ⟨h1, h2⟩ := h
  obtain ⟨g', cap', cur, e, hb, hg, hc, hm, hs, ht⟩ := h2.resolve_left (by rintro ⟨h, _⟩; cases h)
  injection e with e1 e2 e3
  injection e1 with e1
  injection e1 with e1
  subst e1 e3
  rw [Nat.mul_one] at hs ht
  have hcell : ∀ t, t < n → cur[t]? = some (.iface 26 (vs t)) := fun t htn => by
    have := ifs_get (vs := vs) htn
    rw [← ht, List.getElem?_take_of_lt htn] at this
    simpa using this
  refine (delete_walk g 0 cap n i (fun t => .iface 26 (vs t)) w (fun t => rfl) (fun t htn => ⟨by rw [Nat.zero_add]; exact cell_of_block hg t _ (hcell t htn), free_of_block hg _⟩) hc (by unfold maxLen at hm; omega) hi).mono ?_
  rintro e w' ⟨rfl, rfl⟩
  have k1 := heap_setCells g _ ((List.range (n - (i + 1))).map fun t => Value.iface 26 (vs (i + 1 + t))) (0 + i * 1) w.drew cur hg
  have k2 := heap_setCells g _ (List.replicate (n - (i + (n - (i + 1)))) Value.nilIface) (0 + (i + (n - (i + 1)))) _ _ k1
  have k3 : Grew (some g) w.drew (w.drew.setCells g (0 + i * 1) ((List.range (n - (i + 1))).map fun t => Value.iface 26 (vs (i + 1 + t)))) := grew_setCells g _ _ _ _ hg
  have k4 : Grew (some g) _ _ := grew_setCells g (List.replicate (n - (i + (n - (i + 1)))) Value.nilIface) (0 + (i + (n - (i + 1)))) _ _ k1
  refine ⟨by rw [show i + (n - (i + 1)) = n - 1 by omega], ⟨by simp [ifs], .inr ⟨g, cap, _, rfl, hb, k2, by omega, hm, by rw [laid_size, laid_size, Nat.mul_one]; exact hs, ?_⟩⟩, (Grew.of_below (below_drewN' (Below.refl _ _) 1)).trans (k3.trans k4)⟩
  apply List.ext_getElem?
  intro k
  rw [ifs_del vs hi k, Nat.mul_one]
  by_cases hk : k < n - 1
  · rw [if_pos hk, List.getElem?_take_of_lt hk, Array.getElem?_toList, laid_get _ _ _ _ (by rw [laid_size]; simp; omega), if_neg (by simp; omega), laid_get _ _ _ _ (by simp; omega)]
    by_cases hki : k < i
    · rw [if_neg (by omega), if_pos hki]
      exact hcell k (by omega)
    · rw [if_pos (by simp; omega), if_neg hki, List.getElem?_map, List.getElem?_range (by omega)]
      show some (Value.iface _ (vs _)) = _
      rw [show i + 1 + (k - (0 + i * 1)) = k + 1 by omega]
  · rw [if_neg hk, List.getElem?_eq_none]
    rw [List.length_take]
    omega

theorem eraseIdx_getD (ms : List MsgM) (i k : Nat) : (ms.eraseIdx i).getD k noMsg = if k < i then ms.getD k noMsg else ms.getD (k + 1) noMsg := by
  simp only [List.getD_eq_getElem?_getD, List.getElem?_eraseIdx]
  split <;> rfl

set_option maxHeartbeats 2000000 in
set_option maxRecDepth 100000 in
theorem rtake_any (B : Nat) (w : World) (r : Nat) (ms : List MsgM) (h : BagAt B w r ms) (hB : B ≤ w.heap.size) (i : Nat) (hi : i < ms.length) : Calls Tryd.prog 87 #[.pointer (some ⟨r, 0, none⟩), .int .i64 i] w fun e w' =>
    e = .returned (.tuple #[]) ∧ BagAt B w' r (ms.eraseIdx i) ∧ Below B w w' ∧ Still Rest w w' := by
  obtain ⟨h0, sl, vs, h1, h2, h3⟩ := h
  obtain ⟨g, cap, rfl, hg, hgs⟩ := (own_forms h2).resolve_left (by rintro ⟨_, h, _⟩; omega)
  have hmn : ms.length ≤ 9223372036854775807 := by
    obtain ⟨_, _, _, e, _, _, hc, hm, _⟩ := h2.2.resolve_left (by rintro ⟨h, _⟩; cases h)
    injection e
    unfold maxLen at hm
    omega
  have c0 := cell_of_block h1 0 _ rfl
  have kw : IntKind.i64.wrap ((i : Int) + 1) = ((i + 1 : Nat) : Int) := (kwid (by omega) (by omega)).trans (by omega)
  have H1 := Lib.hid h1
  have H2 := Lib.hid h2
  have H3 := Lib.hid h3
  clear h1 h2 h3
  go_enter Tryd.func87, Tryd.ntmps87
  go_wp2_with (go_at_call 89; fail)
  refine (delete_any B g cap ms.length i vs w H2.out hi).mono ?_
  rintro e w1 ⟨rfl, hown, hgr⟩
  have hr1 := hgr.2 _ _ _ (by decide) H1.out
  have c1 := cell_of_block hr1 0 _ rfl
  have fr := free_of_block hr1 0
  have HO := Lib.hid hown
  have HG := Lib.hid hgr
  have HR1 := Lib.hid hr1
  clear hown hgr hr1 c0 kw
  go_wp2
  have hbut := But.set w1 r 0 (.slice (some ⟨g, 0, none⟩) (ms.length - 1) cap)
  have hpar := hbut.still (T := Parts) HR1.out (by unfold Parts; decide)
  have hany := hbut.still (T := fun e => e = 20) HR1.out (by decide)
  have hrest := hbut.still (T := Rest) HR1.out (fun h => h.2 rfl)
  refine bodyPost_end (v := .tuple #[]) (by simp [results, Tryd.results87, go_sem]) rfl ⟨rfl, ⟨h0, _, fun k => if k < i then vs k else vs (k + 1), heap_setCell_same _ _ _ _ _ _ HR1.out, ?_, fun k hk => ?_⟩, ?_, ?_⟩
  · rw [List.length_eraseIdx_of_lt hi]
    exact own_still HO.out hany rfl
  · rw [List.length_eraseIdx_of_lt hi] at hk
    rw [eraseIdx_getD]
    show MsgAt _ _ (if _ then vs _ else vs _) _ ∧ _
    split
    · exact ⟨((H3.out k (by omega)).1.still (parts_any HG.out.2)).still hpar, (H3.out k (by omega)).2⟩
    · exact ⟨((H3.out (k + 1) (by omega)).1.still (parts_any HG.out.2)).still hpar, (H3.out (k + 1) (by omega)).2⟩
  · exact ((Below.refl B w).grown HG.out.1 hB (fun k hk => (Option.some.inj hk) ▸ hg)).setCell h0 _
  · exact (show Still Rest w w1 from fun g cs e he hk => HG.out.2 g cs e he.1 hk).trans hrest
end Go.Proofs.YtpkkjonajimefaaDoor
