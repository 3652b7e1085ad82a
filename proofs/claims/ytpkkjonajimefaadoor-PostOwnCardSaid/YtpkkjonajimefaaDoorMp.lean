/- Pods by numbers. -/
import Derived.Test.YtpkkjonajimefaaDoorM
set_option linter.unusedVariables false
set_option linter.unusedSimpArgs false
namespace Go.Proofs.YtpkkjonajimefaaDoor
open Go.RowKit

/-- A slice of numbers that only is read. -/
def Nums (w : World) (v : Value) (l : List Int) : Prop :=
  ∃ a c, v = .slice a l.length c ∧ (l.length ≤ 17592186044416) ∧ ∀ i, i < l.length → ∃ b off, a = some ⟨b, off, none⟩ ∧ w.cell? ⟨b, off + i, none⟩ = some (.int .i64 (l.getD i 0))
theorem Nums.below {w w' : World} {v : Value} {l : List Int} (h : Nums w v l) (hb : Below w.heap.size w w') : Nums w' v l := by
  obtain ⟨a, c, h1, h2, h3⟩ := h
  exact ⟨a, c, h1, h2, fun i hi => by
    obtain ⟨b, off, h4, h5⟩ := h3 i hi
    exact ⟨b, off, h4, cell_below h5 hb⟩⟩
theorem Nums.of_own {w : World} {base : Nat} {v : Value} {l : List Int} (h : Ints base w v l) (hl : l.length ≤ 1099511627776) : Nums w v l := by
  rcases own_forms h with ⟨rfl, h0, h1⟩ | ⟨g, cap, rfl, _, _⟩
  · have : l = [] := by simpa using h1
    subst this
    exact ⟨none, 0, rfl, by simp, fun i hi => absurd hi (Nat.not_lt_zero _)⟩
  · refine ⟨_, _, rfl, by omega, fun i hi => ⟨g, 0, rfl, ?_⟩⟩
    rw [Nat.zero_add, h.cellAt i (by omega), List.getElem?_map, List.getD_eq_getElem?_getD, List.getElem?_eq_getElem hi]
    rfl
theorem Nums.nil (w : World) : Nums w (.slice none 0 0) [] := ⟨none, 0, rfl, by decide, fun i hi => absurd hi (Nat.not_lt_zero _)⟩

theorem news_row {w : World} {g : Nat} {cs : Array Value} {T : TypeId} (h : w.heap[g]? = some (.cells cs T (0, 0))) : ∀ j u, cs.toList[j]? = some u → w.cell? ((⟨g, 0, none⟩ : Addr).add j) = some u := by
  intro j u hu
  have hadd : (⟨g, 0, none⟩ : Addr).add j = ⟨g, j, none⟩ := by unfold Addr.add; split <;> simp_all
  rw [hadd]
  exact cell_of_block h j u (by simpa using hu)
/-- The first k pods by numbers. -/
def podsN (ns : List Int) (k : Nat) : List PodM := (List.range k).map fun i => podM i (ns.getD i 0) 1
def podsM (ns : List Int) : List PodM := podsN ns (min 8 ns.length)
theorem podsN_len (ns : List Int) (k : Nat) : (podsN ns k).length = k := by simp [podsN]
theorem podsN_get (ns : List Int) {k i : Nat} (h : i < k) : (podsN ns k).getD i noPod = podM i (ns.getD i 0) 1 := by
  simp [podsN, List.getD_eq_getElem?_getD, h]
theorem podsM_few (ns : List Int) : (podsM ns).length ≤ 8 ∧ ∀ i, i < (podsM ns).length → ((podsM ns).getD i noPod).picks.length ≤ 1073741824 ∧ ((podsM ns).getD i noPod).bears.length ≤ 1073741824 := by
  unfold podsM
  rw [podsN_len]
  refine ⟨by omega, fun i hi => ?_⟩
  rw [podsN_get _ hi]
  exact podM_few _ _ _

set_option maxHeartbeats 4000000 in
set_option maxRecDepth 100000 in
theorem pods_any (w : World) (v : Value) (ns : List Int) (hn : Nums w v ns) : Calls Tryd.prog 27 #[v] w fun e w' => ∃ v', e = .returned v' ∧ PodsAt w.heap.size w' v' (podsM ns) ∧ Below w.heap.size w w' := by
  have HN := Lib.hid hn
  obtain ⟨a, c, rfl, hl, hc⟩ := hn
  have HC := Lib.hid hc
  clear hc
  go_enter Tryd.func27, Tryd.ntmps27
  go_wp2
  go_loopw [3, 4] (fun v i wr => ∃ k : Nat, i = .int .i64 k ∧ k ≤ 8 ∧ k ≤ ns.length ∧ PodsAt w.heap.size wr v (podsN ns k) ∧ Below w.heap.size w wr) (fun _ i _ => 9 - (intOf i).toNat)
  case atStart => exact ⟨0, rfl, by omega, Nat.zero_le _, ⟨fun _ => [], World.ownsRow_nil _ _ _ _, fun i h => absurd h (Nat.not_lt_zero _)⟩, Below.refl _ _⟩
  case round =>
    obtain ⟨k, rfl, hk8, hkn, hown, hbw⟩ := hrel
    have HO := Lib.hid hown
    have HB := Lib.hid hbw
    clear hown hbw
    by_cases hlt : k < ns.length
    · by_cases h8 : k < 8
      · have h8' : (k : Int) < 8 := by omega
        obtain ⟨b, off, rfl, hcell⟩ := HC.out k hlt
        have hcell' := cell_below hcell HB.out
        obtain ⟨nk, hnk⟩ : ∃ nk, ns.getD k 0 = nk := ⟨_, rfl⟩
        rw [hnk] at hcell'
        have HNK := Lib.hid hnk
        obtain ⟨cc, hrow, hpods⟩ := HO.out
        rw [podsN_len] at hrow hpods
        have HROW := Lib.hid hrow
        have HPODS := Lib.hid hpods
        clear hcell hnk hrow hpods
        obtain ⟨pk, hpk⟩ : ∃ pk, podM k nk 1 = pk := ⟨_, rfl⟩
        have hcon := fun w => pod_any k (by omega) nk 1 (by omega) (by omega) w
        rw [hpk] at hcon
        have HPK := Lib.hid hpk
        have HCON := Lib.hid hcon
        have HCELL := Lib.hid hcell'
        have HL7 : Hid (∀ i, i < k → (cc i).length = 7) := Lib.hid fun i hi => (HPODS.out i hi).len
        clear hpk hcon
        go_wp2_with (first | (go_at_call 37; refine (HCON.out _).mono ?_; rintro r w5 ⟨cs, rfl, hp, hb⟩; obtain ⟨pu, pv, rfl, hpu, hpv⟩ := hp; obtain ⟨a1, l1, c1, rfl⟩ := own_slice hpu; obtain ⟨a2, l2, c2, rfl⟩ := own_slice hpv; have HPU := Lib.hid hpu; have HPV := Lib.hid hpv; have HB5 := Lib.hid hb; clear hpu hpv hb) | (at_builtin; refine list_appends elt_pods _ _ rfl rfl rfl rfl (World.ownsRow.alloc (own_below HROW.out HB5.out) _) (show [Value.string pk.name, .int .i64 pk.shard, .int .i64 pk.cpu, .int .i64 pk.mem, .slice a1 l1 c1, .slice a2 l2 c2, .bool pk.alone].length = 1 * 7 from rfl) (news_row (alloc_at _ _)) (by simp [Value.oneCell']) (by omega) (by have := HB.out.size; have := HB5.out.size; simp; omega) ?_; intro v' w6 hown hgrow; have HO6 := Lib.hid hown; have HG6 := Lib.hid hgrow; clear hown hgrow))
        go_roundw
        case rel =>
          have b6 := (below_alloc' (below_call HB.out HB5.out) _).grown HG6.out (by have := HB.out.size; have := HB5.out.size; simp; omega) (fun k hk => (HROW.out.lt k hk).1)
          refine ⟨k + 1, by go_num, by omega, by omega, ⟨fun i => if i = k then [Value.string pk.name, .int .i64 pk.shard, .int .i64 pk.cpu, .int .i64 pk.mem, .slice a1 l1 c1, .slice a2 l2 c2, .bool pk.alone] else cc i, ?_, fun i hi => ?_⟩, b6⟩
          · have := HO6.out
            rw [podsN_len, flat_succ, if_pos rfl, flat_ext (d := cc) (fun i hi => if_neg (by omega))]
            exact this
          · rw [podsN_len] at hi
            have hst : ∀ (b : Nat) (v : Value) (l : List ByteArray), Strs b w5 v l → Strs b w6 v l := fun b v l h => by
              have h1 := World.ownsRow.alloc h (.cells #[Value.string pk.name, .int .i64 pk.shard, .int .i64 pk.cpu, .int .i64 pk.mem, .slice a1 l1 c1, .slice a2 l2 c2, .bool pk.alone] 53)
              exact h1.kept HG6.out ((own_type_ne h1 (World.ownsRow.alloc (own_below HROW.out HB5.out) _) (by decide)).imp id (fun h e => h (e.trans rfl)))
            by_cases e : i = k
            · subst e
              show PodAt _ _ (if _ then _ else _) _
              rw [if_pos rfl, podsN_get _ hi, HNK.out, HPK.out]
              exact ⟨_, _, rfl, own_base (hst _ _ _ HPU.out) HB.out.size, own_base (hst _ _ _ HPV.out) HB.out.size⟩
            · show PodAt _ _ (if _ then _ else _) _
              rw [if_neg e, podsN_get _ hi]
              have := HPODS.out i (by omega)
              rw [podsN_get _ (by omega)] at this
              obtain ⟨u, v, e1, h1, h2⟩ := this
              exact ⟨u, v, e1, hst _ _ _ (own_below h1 HB5.out), hst _ _ _ (own_below h2 HB5.out)⟩
        case measure => simp [intOf]; omega
      · obtain rfl : k = 8 := by omega
        have hl8 : (8 : Int) < ns.length := by omega
        go_wp2
        go_ret
        exact ⟨_, rfl, by unfold podsM; rw [Nat.min_eq_left (by omega)]; exact HO.out, HB.out⟩
    · obtain rfl : k = ns.length := by omega
      go_wp2
      go_ret
      exact ⟨_, rfl, by unfold podsM; rw [Nat.min_eq_right (by omega)]; exact HO.out, HB.out⟩
theorem nums_row {w : World} {a : Option Addr} {len cap : Nat} {zs : List Int} (h : IsRow .i64 w a len cap zs) (y : len * 8 ≤ 140737488351232) : Nums w (.slice a len cap) (zs.take len) := by
  have hl : (zs.take len).length = len := by
    rcases h with ⟨_, rfl, _, rfl⟩ | ⟨x, _, h1, _, h2, _⟩
    · rfl
    · rw [List.length_take]; omega
  refine ⟨a, cap, by rw [hl], by omega, fun i hi => ?_⟩
  rw [hl] at hi
  obtain ⟨b, off, e, _, _, hc⟩ := IsRow.at_ h (by omega)
  refine ⟨b, off, e, ?_⟩
  rw [hc i hi, List.getD_eq_getElem?_getD, List.getD_eq_getElem?_getD, List.getElem?_take_of_lt hi]
end Go.Proofs.YtpkkjonajimefaaDoor
