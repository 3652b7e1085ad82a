/- A ledger's room given back, places told, what is used told; what is wrong with a place, by the program. -/
import Derived.Test.YtofofjfmhaggmaaGreatDoorVg
import Derived.Test.YtofofjfmhaggmaaGreatDoorVb
import Derived.Test.YtofofjfmhaggmaaGreatDoorShelf
import Derived.ScopeJumps
import Derived.WalkMore
set_option linter.unusedVariables false
set_option linter.unusedSimpArgs false
namespace Go.Proofs.YtofofjfmhaggmaaGreatDoor
open Go.RowKit

/-- Nothing below block N changes, and blocks keep their shape. -/
def Shp (N : Nat) (w w' : World) : Prop := N ≤ w.heap.size → (Below N w w' ∧ ∀ (g : Nat) (cs : Array Value) (T : TypeId), w.heap[g]? = some (.cells cs T (0, 0)) → ∃ cs', w'.heap[g]? = some (.cells cs' T (0, 0)) ∧ cs'.size = cs.size)
theorem Shp.refl (N : Nat) (w : World) : Shp N w w := fun _ => ⟨Below.refl _ _, fun g cs T h => ⟨cs, h, rfl⟩⟩
theorem Shp.trans {N : Nat} {a b c : World} (h : Shp N a b) (k : Shp N b c) : Shp N a c := fun hN => by
  obtain ⟨h1, h2⟩ := h hN
  obtain ⟨k1, k2⟩ := k (Nat.le_trans hN h1.size)
  refine ⟨h1.trans k1, fun g cs T hg => ?_⟩
  obtain ⟨cs1, e1, s1⟩ := h2 g cs T hg
  obtain ⟨cs2, e2, s2⟩ := k2 g cs1 T e1
  exact ⟨cs2, e2, s2.trans s1⟩
theorem Shp.of_below {N : Nat} {w w' : World} (h : Below w.heap.size w w') : Shp N w w' := fun hN => ⟨h.mono hN, fun g cs T hg => ⟨cs, block_below hg h, rfl⟩⟩
theorem Shp.of_gb {N g : Nat} {w w' : World} {cs cs' : Array Value} {T : TypeId} (h : w.heap[g]? = some (.cells cs T (0, 0))) (h' : w'.heap[g]? = some (.cells cs' T (0, 0))) (hs : cs'.size = cs.size) (k : Gb g w w') (hN : N ≤ g) : Shp N w w' := fun hw =>
  ⟨Gb.below (Below.refl N w) k hN hw, fun b ds T' hb => by
    by_cases e : b = g
    · subst e
      rw [h] at hb
      injection hb with hb
      injection hb with e1 e2
      subst e1 e2
      exact ⟨cs', h', hs⟩
    · exact ⟨ds, k.block' hb e, rfl⟩⟩
theorem Shp.below {N : Nat} {w w' : World} (h : Shp N w w') (hN : N ≤ w.heap.size) : Below N w w' := (h hN).1
theorem six {cs : Array Value} (h : cs.size = 6) : ∃ a b c d e f, cs = #[a, b, c, d, e, f] := by
  match cs, h with
  | ⟨[a, b, c, d, e, f]⟩, _ => exact ⟨a, b, c, d, e, f, rfl⟩
theorem two {cs : Array Value} (h : cs.size = 2) : ∃ a b, cs = #[a, b] := by
  match cs, h with
  | ⟨[a, b]⟩, _ => exact ⟨a, b, rfl⟩
/-- A new block of six cells, from N on. -/
def New6 (N : Nat) (T : TypeId) (v : Value) (w : World) : Prop := ∃ g a b c d e f, v = .pointer (some ⟨g, 0, none⟩) ∧ N ≤ g ∧ w.heap[g]? = some (.cells #[a, b, c, d, e, f] T (0, 0))
theorem New6.shp {N M : Nat} {T : TypeId} {v : Value} {w w' : World} (h : New6 N T v w) (k : Shp M w w') (hM : M ≤ w.heap.size) : New6 N T v w' := by
  obtain ⟨g, a, b, c, d, e, f, rfl, h1, h2⟩ := h
  obtain ⟨cs, h3, h4⟩ := (k hM).2 _ _ _ h2
  obtain ⟨a, b, c, d, e, f, rfl⟩ := six h4
  exact ⟨g, a, b, c, d, e, f, rfl, h1, h3⟩
def New2 (N : Nat) (T : TypeId) (v : Value) (w : World) : Prop := ∃ g a b, v = .pointer (some ⟨g, 0, none⟩) ∧ N ≤ g ∧ w.heap[g]? = some (.cells #[a, b] T (0, 0))
theorem New2.shp {N M : Nat} {T : TypeId} {v : Value} {w w' : World} (h : New2 N T v w) (k : Shp M w w') (hM : M ≤ w.heap.size) : New2 N T v w' := by
  obtain ⟨g, a, b, rfl, h1, h2⟩ := h
  obtain ⟨cs, h3, h4⟩ := (k hM).2 _ _ _ h2
  obtain ⟨a, b, rfl⟩ := two h4
  exact ⟨g, a, b, rfl, h1, h3⟩

theorem elt_places : Elt Tryz.prog 46 143 5 56 := elt_of Tryz.underlying46 (by decide) (by decide) (by kernel_rfl)
set_option maxRecDepth 100000 in
theorem clone_places (w : World) (v : Value) (n base : Nat) (xs : List Value) (h : w.ownsRow base 143 5 v n xs) (h1 : ∀ u ∈ xs, u.oneCell' = true) (hn : n ≤ 1099511627776) :
    Calls Tryz.prog 75 #[v] w fun e w' => ∃ v', e = .returned v' ∧ w'.ownsRow w.heap.size 143 5 v' n xs ∧ Below w.heap.size w w' := by
  have qn : ∀ (w : World) (a : Option Addr) (n c n' c' : Nat), (binOp .eql 46 (.slice a n c) (.slice none n' c')).run Tryz.prog w = .ok (.bool a.isNone) w := fun w a n c n' c' => Lib.run_eql_slice_nil w _ 143 a n c n' c' (by kernel_rfl)
  rcases own_forms h with ⟨rfl, rfl, rfl⟩ | ⟨g, cap, rfl, hb, hg⟩
  · clear h h1
    go_enter Tryz.func75, Tryz.ntmps75
    go_wp2
    go_ret
    exact ⟨_, rfl, World.ownsRow_nil _ _ _ _, Below.refl _ _⟩
  · have HC := Lib.hid (own_cells h)
    have HL := Lib.hid h.1
    have HN := Lib.hid h1
    clear h h1
    go_enter Tryz.func75, Tryz.ntmps75
    go_wp2_with (at_builtin; refine list_appends elt_places _ _ rfl rfl rfl rfl (World.ownsRow_made w #[] 0 (Nat.le_refl _) (Nat.zero_le _) (by simp)) HL.out (fun j u hu => (cell_below (HC.out j u hu) (below_alloc' (Below.refl _ _) _))) HN.out (by omega) (by simp) ?_; intro v' w' hown hgrow; have HO := Lib.hid hown; have HB := Lib.hid ((below_alloc' (Below.refl _ w) _).grown hgrow (by simp) (fun k hk => Nat.le_of_eq (Option.some.inj hk))); clear hown hgrow)
    go_ret
    refine ⟨_, rfl, ?_, HB.out⟩
    have := HO.out
    rwa [List.nil_append, Nat.zero_add] at this
theorem one_places (l : List PlaceL) : ∀ u ∈ l.flatMap placeV, u.oneCell' = true := by
  intro u hu
  obtain ⟨p, _, hp⟩ := List.mem_flatMap.1 hu
  simp only [placeV, List.mem_cons, List.not_mem_nil, or_false] at hp
  rcases hp with rfl | rfl | rfl | rfl | rfl <;> rfl
theorem placesQ_slice {Q : Nat → Prop} {w : World} {v : Value} {l : List PlaceL} (h : PlacesQ Q w v l) : ∃ a c, v = .slice a l.length c := by
  obtain ⟨a, c, e, _⟩ := flat_cells h
  exact ⟨a, c, e⟩
set_option maxRecDepth 100000 in
theorem lplaces_any (Q : Nat → Prop) (w : World) (l a b : Nat) (L : LedL) (h : LedAt Q w l a b L) (hok : L.ok) (hQ : ∀ g, Q g → g < w.heap.size) (g : Int) :
    Calls Tryz.prog 43 #[.pointer (some ⟨l, 0, none⟩), .int .i64 g] w fun e w' => ∃ v, e = .returned v ∧ PlacesQ Q w' v (L.get g) ∧ Below w.heap.size w w' := by
  obtain ⟨v, hl, hv⟩ := h.look_taken g
  have c1 := cell_of_block h.box 1 _ rfl
  have h8 : (L.get g).length ≤ 1099511627776 := by
    by_cases he : L.get g = []
    · rw [he]; simp
    · unfold LedL.get at he ⊢
      cases hk : getK L.taken g with
      | none => simp
      | some p =>
        unfold getK at hk
        rw [Option.map_eq_some_iff] at hk
        obtain ⟨t, ht, e⟩ := hk
        have := (hok.some t (List.mem_of_find?_eq_some ht)).2.1
        rw [e] at this
        simp
        omega
  have HV := Lib.hid hv
  have HQ := Lib.hid hQ
  have H8 := Lib.hid h8
  clear hv hQ h8 h hok
  go_enter Tryz.func43, Tryz.ntmps43
  go_wp2_with fail
  refine (clone_places w v _ 0 _ HV.out.1 (one_places _) H8.out).mono ?_
  rintro e w1 ⟨v', rfl, ho, hb⟩
  have HO := Lib.hid ho
  have HB := Lib.hid hb
  clear ho hb
  go_wp2
  go_ret
  exact ⟨_, rfl, Rq.new HO.out HQ.out, HB.out⟩
set_option maxRecDepth 100000 in
theorem lgive_any (Q : Nat → Prop) (w : World) (l a b : Nat) (L : LedL) (h : LedAt Q w l a b L) (g : Int) :
    Calls Tryz.prog 54 #[.pointer (some ⟨l, 0, none⟩), .int .i64 g] w fun e w' => e = .returned (.int .i64 (L.errGive g)) ∧ LedAt Q w' l a b (L.give g) ∧ Mod (fun k => k = b) w w' := by
  obtain ⟨v, hl, hv⟩ := h.look_taken g
  obtain ⟨s, k, rfl⟩ := placesQ_slice hv
  have c1 := cell_of_block h.box 1 _ rfl
  have H := Lib.hid h
  clear hv h
  by_cases he : L.get g = []
  · have hz : (L.get g).length = 0 := by rw [he]; rfl
    rw [hz] at hl
    have HE := Lib.hid (show L.errGive g = 5 ∧ L.give g = L by unfold LedL.give LedL.errGive; rw [if_pos he]; exact ⟨rfl, rfl⟩)
    clear he hz
    go_enter Tryz.func54, Tryz.ntmps54
    go_wp2
    go_ret
    exact ⟨ret_int HE.out.1.symm, by rw [HE.out.2]; exact H.out, Mod.refl _ _⟩
  · have hz : ((L.get g).length : Int) ≠ 0 := by
      have := List.length_pos_iff.2 he
      omega
    have hz' : ((L.get g).length == 0) = false := by simpa using he
    have hz2 : (((L.get g).length : Int) == 0) = false := beq_eq_false_iff_ne.2 hz
    have HE := Lib.hid (show L.errGive g = 0 ∧ L.give g = { L with taken := delK L.taken g } by unfold LedL.give LedL.errGive; rw [if_neg he]; exact ⟨rfl, rfl⟩)
    obtain ⟨w', hr, hL, hT⟩ := H.out.del_taken g 0
    have HL := Lib.hid (And.intro hL hT)
    clear he hL hT
    go_enter Tryz.func54, Tryz.ntmps54
    go_wp2
    go_ret
    exact ⟨ret_int HE.out.1.symm, by rw [HE.out.2]; exact HL.out.1, HL.out.2.mod⟩
set_option maxRecDepth 100000 in
theorem lused_any (Q : Nat → Prop) (w : World) (l a b : Nat) (L : LedL) (h : LedAt Q w l a b L) (hok : L.ok) (hk : L.taken.length ≤ 1073741824) (nm : List UInt8) :
    Calls Tryz.prog 57 #[.pointer (some ⟨l, 0, none⟩), .string (str nm)] w fun e w' => e = .returned (.tuple #[.agg #[.int .i64 (L.cpu nm), .int .i64 (L.mem nm)], .int .i64 (L.pods nm)]) ∧ Below w.heap.size w w' := by
  have H := Lib.hid h
  have HOK := Lib.hid hok
  clear h hok
  go_enter Tryz.func57, Tryz.ntmps57
  go_wp2_with fail
  have z0 := alloc_at w (.cells #[.int .i64 0, .int .i64 0] 58)
  have hb0 : Below w.heap.size w (w.alloc (.cells #[.int .i64 0, .int .i64 0] 58)) := below_alloc' (Below.refl _ _) _
  generalize World.alloc w _ = w1 at z0 hb0 ⊢
  refine (used_any Q w1 l a b L (H.out.below hb0) nm HOK.out hk).mono ?_
  rintro e w2 ⟨rfl, hb⟩
  have hz := block_below z0 hb
  have hb2 := below_call hb0 hb
  obtain ⟨c, hc⟩ : ∃ c, L.cpu nm = c := ⟨_, rfl⟩
  obtain ⟨m, hm⟩ : ∃ c, L.mem nm = c := ⟨_, rfl⟩
  obtain ⟨p, hp⟩ : ∃ c, L.pods nm = c := ⟨_, rfl⟩
  rw [hc, hm, hp]
  have HE := Lib.hid (And.intro hc (And.intro hm hp))
  clear hb hb0 z0 hc hm hp
  have HZ := Lib.hid hz
  have HB := Lib.hid hb2
  have k0 : ∀ o, (w2.alloc o).cell? ⟨w.heap.size, 0, none⟩ = some (.int .i64 0) := fun o => cell_of_block (old_al hz) 0 _ rfl
  have k1 : ∀ o, (w2.alloc o).cell? ⟨w.heap.size, 1, none⟩ = some (.int .i64 0) := fun o => cell_of_block (old_al hz) 1 _ rfl
  have kf : ∀ o j, (w2.alloc o).frozen? ⟨w.heap.size, j, none⟩ = false := fun o j => free_of_block (old_al hz) j
  have hne : w2.heap.size ≠ w.heap.size := by have := (Array.getElem?_eq_some_iff.1 hz).1; omega
  have hne' : w.heap.size ≠ w2.heap.size := Ne.symm hne
  clear hz hb2
  go_wp2_with fail
  have hq := set2 (.int .i64 c) (.int .i64 m) (old_al (o := .cells #[.int .i64 c, .int .i64 m, .int .i64 p] 156) HZ.out)
  have hbq := ((below_alloc' HB.out (.cells #[.int .i64 c, .int .i64 m, .int .i64 p] 156)).setCell (p := ⟨w.heap.size, 0, none⟩) (Nat.le_refl _) (.int .i64 c)).setCell (p := ⟨w.heap.size, 1, none⟩) (Nat.le_refl _) (.int .i64 m)
  have HQ := Lib.hid (And.intro hq hbq)
  clear hq hbq
  go_region
  generalize World.setCell (World.setCell (World.alloc w2 _) _ _) _ _ = y at HQ ⊢
  have q0 : y.drew.cell? ⟨w.heap.size, 0, none⟩ = some (.int .i64 c) := cell_of_block HQ.out.1 0 _ rfl
  have q1 : y.drew.cell? ⟨w.heap.size, 1, none⟩ = some (.int .i64 m) := cell_of_block HQ.out.1 1 _ rfl
  have hb3 := HQ.out.2.drew
  generalize y.drew = y2 at q0 q1 hb3 ⊢
  clear k0 k1 kf
  go_wp2
  exact bodyPost_ret (v := .tuple #[.agg #[.int .i64 c, .int .i64 m], .int .i64 p]) (by simp [results, Tryz.results57, go_sem, q0, q1]) rfl ⟨by rw [HE.out.1, HE.out.2.1, HE.out.2.2], hb3⟩
end Go.Proofs.YtofofjfmhaggmaaGreatDoor
/-! Whether texts are all among others; whether a pod fits, by the program. -/
set_option linter.unusedVariables false
set_option linter.unusedSimpArgs false
namespace Go.Proofs.YtofofjfmhaggmaaGreatDoor
open Go.RowKit

theorem inW_str (l : List (List UInt8)) (x : List UInt8) : Lib.containsS (l.map str) (str x) = inW l x := by
  rw [Bool.eq_iff_iff, Lib.containsS_iff, List.mem_map]
  unfold inW
  rw [List.any_eq_true]
  constructor
  · rintro ⟨y, hy, e⟩; exact ⟨y, hy, by simp [str_inj e]⟩
  · rintro ⟨y, hy, e⟩; exact ⟨y, hy, by rw [of_decide_eq_true e]⟩
/-- What IndexFunc answers. -/
def IdxPost (w : World) (q : Bool) (e : Ending) (w' : World) : Prop := ∃ r : Int, e = .returned (.int .i64 r) ∧ decide (r ≥ 0) = q ∧ w = w'
theorem strs_cells {Q : Nat → Prop} {w : World} {v : Value} {l : List (List UInt8)} (h : StrsQ Q w v l) : ∃ a c, v = .slice a l.length c ∧ (l ≠ [] → ∃ b, a = some ⟨b, 0, none⟩ ∧ ∀ j, j < (l.map str).length → w.cell? ⟨b, 0 + j, none⟩ = some (.string ((l.map str).getD j ByteArray.empty))) := by
  rcases own_forms h.1 with ⟨rfl, h0, _⟩ | ⟨g, cap, rfl, _, _⟩
  · exact ⟨_, _, by rw [h0], fun hn => absurd (List.length_eq_zero_iff.1 h0) hn⟩
  · refine ⟨_, _, rfl, fun _ => ⟨g, rfl, fun j hj => ?_⟩⟩
    rw [List.length_map] at hj
    rw [Nat.zero_add, h.1.cellAt j (by omega), List.getElem?_map, List.getElem?_eq_getElem hj, List.getD_eq_getElem?_getD, List.getElem?_map, List.getElem?_eq_getElem hj]
    rfl
set_option maxRecDepth 100000 in
theorem all1_is (Q : Nat → Prop) (w : World) (B : Nat) (v : Value) (l : List (List UInt8)) (hb : w.cell? ⟨B, 0, none⟩ = some v) (hv : StrsQ Q w v l) (hl : l.length ≤ 4294967280) (x : List UInt8) (q : Bool) (hq : inW l x = q) :
    Calls Tryz.prog 237 #[.string (str x), .pointer (some ⟨B, 0, none⟩)] w fun e w' => e = .returned (.bool (!q)) ∧ w = w' := by
  subst hq
  obtain ⟨a, c, rfl, hc⟩ := strs_cells hv
  have HC := Lib.hid hc
  clear hv hc
  by_cases hn : l = []
  · subst hn
    go_enter Tryz.func237, Tryz.ntmps237
    go_wp2_with fail
    refine (Tryz.slices_Contains_string_empty a c (str x) w).mono ?_
    rintro e w1 ⟨rfl, rfl⟩
    go_wp2
    go_ret
    exact ⟨rfl, rfl⟩
  · obtain ⟨b, rfl, hcc⟩ := HC.out hn
    have HCC := Lib.hid hcc
    have HI := Lib.hid (inW_str l x)
    obtain ⟨q, hq⟩ : ∃ q, inW l x = q := ⟨_, rfl⟩
    rw [hq] at HI
    rw [hq]
    clear hcc HC hq
    go_enter Tryz.func237, Tryz.ntmps237
    go_wp2_with fail
    refine (Tryz.slices_Contains_string b 0 l.length c (l.map str) (str x) w (by simp) (by omega) HCC.out).mono ?_
    rintro e w1 ⟨rfl, rfl⟩
    rw [show (l.map str).take l.length = l.map str from List.take_of_length_le (by simp), HI.out]
    go_wp2
    go_ret
    exact ⟨rfl, rfl⟩
theorem allW_take (of l : List (List UInt8)) (j : Nat) (hj : j < of.length) (h : inW l of[j] = false) : allW of l = false := by
  unfold allW
  rw [Bool.eq_false_iff]
  intro hall
  have := List.all_eq_true.1 hall of[j] (List.getElem_mem hj)
  rw [h] at this
  cases this
theorem allW_all (of l : List (List UInt8)) (h : ∀ k (hk : k < of.length), inW l of[k] = true) : allW of l = true := by
  unfold allW
  rw [List.all_eq_true]
  intro x hx
  obtain ⟨k, hk, e⟩ := List.getElem_of_mem hx
  rw [← e]
  exact h k hk
set_option maxRecDepth 100000 in
set_option maxHeartbeats 1000000 in
theorem indexf_any (Q : Nat → Prop) (w : World) (B : Nat) (v u : Value) (l of : List (List UInt8)) (hb : w.cell? ⟨B, 0, none⟩ = some v) (hv : StrsQ Q w v l) (hl : l.length ≤ 4294967280) (hu : StrsQ Q w u of) (hof : of.length ≤ 4294967280) :
    Calls Tryz.prog 261 #[u, .func (.func 237) #[] #[.pointer (some ⟨B, 0, none⟩)]] w (IdxPost w (!allW of l)) := by
  obtain ⟨a, c, rfl, hc⟩ := strs_cells hu
  have HC := Lib.hid hc
  have HV := Lib.hid hv
  have HB := Lib.hid hb
  clear hu hc hv hb
  go_enter Tryz.func261, Tryz.ntmps261
  go_wp2
  go_loopw [8] (fun i wr => ∃ j : Nat, i = .int .i64 j ∧ j ≤ of.length ∧ w = wr ∧ ∀ k (hk : k < of.length), k < j → inW l of[k] = true) (fun i _ => of.length - (intOf i).toNat)
  case atStart => exact ⟨0, rfl, Nat.zero_le _, rfl, fun k hk h => absurd h (Nat.not_lt_zero _)⟩
  case round =>
    obtain ⟨j, rfl, hj, rfl, hall⟩ := hrel
    have HA := Lib.hid hall
    clear hall
    by_cases hjl : j < of.length
    · have HJ := Lib.hid hjl
      obtain ⟨b, rfl, hcc⟩ := HC.out (by rintro rfl; simp at hjl)
      have k0 := hcc j (by simpa using hjl)
      rw [Nat.zero_add, List.getD_eq_getElem?_getD, List.getElem?_map, List.getElem?_eq_getElem hjl] at k0
      simp only [Option.map_some, Option.getD_some] at k0
      have hj0 : (0 : Int) ≤ (j : Int) := by omega
      have hj1 : (j : Int) < (of.length : Int) := by omega
      have hno := allW_take of l j hjl
      have hyes := fun (h : inW l of[j] = true) => (show ∀ k (hk : k < of.length), k < j + 1 → inW l of[k] = true from fun k hk hkj => by
        by_cases e : k = j
        · subst e; exact h
        · exact HA.out k hk (by omega))
      generalize of[j] = x at k0 hno hyes
      have HNY := Lib.hid (And.intro hno hyes)
      clear hcc hno hyes
      obtain ⟨q, hq⟩ : ∃ q, inW l x = q := ⟨_, rfl⟩
      have HQQ := Lib.hid hq
      clear hq
      cases q with
      | false =>
        go_wp2_with fail
        refine (all1_is Q w B v l HB.out HV.out hl x false HQQ.out).mono ?_
        rintro e w1 ⟨rfl, rfl⟩
        go_wp2
        go_ret
        exact ⟨_, rfl, by rw [HNY.out.1 HQQ.out]; simp, rfl⟩
      | true =>
        go_wp2_with fail
        refine (all1_is Q w B v l HB.out HV.out hl x true HQQ.out).mono ?_
        rintro e w1 ⟨rfl, rfl⟩
        go_wp2
        go_roundw
        case rel => exact ⟨j + 1, by go_num, HJ.out, by simp, HNY.out.2 HQQ.out⟩
        case measure => have := HJ.out; simp [intOf]; omega
    · obtain rfl : j = of.length := by omega
      have HALL := Lib.hid (allW_all of l fun k hk => HA.out k hk hk)
      clear HA
      go_wp2
      go_ret
      exact ⟨_, rfl, by rw [HALL.out]; rfl, rfl⟩
set_option maxRecDepth 100000 in
theorem contf_any (Q : Nat → Prop) (w : World) (B : Nat) (v u : Value) (l of : List (List UInt8)) (hb : w.cell? ⟨B, 0, none⟩ = some v) (hv : StrsQ Q w v l) (hl : l.length ≤ 4294967280) (hu : StrsQ Q w u of) (hof : of.length ≤ 4294967280) :
    Calls Tryz.prog 236 #[u, .func (.func 237) #[] #[.pointer (some ⟨B, 0, none⟩)]] w fun e w' => e = .returned (.bool (!allW of l)) ∧ w = w' := by
  have HB := Lib.hid (And.intro hb (And.intro hv hu))
  clear hb hv hu
  obtain ⟨q, hq⟩ : ∃ q, (!allW of l) = q := ⟨_, rfl⟩
  have HQ := Lib.hid hq
  rw [hq]
  clear hq
  go_enter Tryz.func236, Tryz.ntmps236
  go_wp2_with fail
  refine (indexf_any Q w B v u l of HB.out.1 HB.out.2.1 hl HB.out.2.2 hof).mono ?_
  rintro e w1 ⟨r, rfl, hr, rfl⟩
  rw [HQ.out] at hr
  go_wp2
  go_ret
  exact ⟨rfl, rfl⟩
set_option maxRecDepth 100000 in
theorem markAll_is (Q : Nat → Prop) (w : World) (v u : Value) (l of : List (List UInt8)) (hQ : ∀ g, Q g → g < w.heap.size) (hv : StrsQ Q w v l) (hl : l.length ≤ 4294967280) (hu : StrsQ Q w u of) (hof : of.length ≤ 4294967280) (q : Bool) (hq : allW of l = q) :
    Calls Tryz.prog 220 #[u, v] w fun e w' => e = .returned (.bool q) ∧ Below w.heap.size w w' := by
  subst hq
  obtain ⟨a, c, rfl, _⟩ := strs_cells hv
  have HB := Lib.hid (And.intro hv hu)
  clear hv hu
  obtain ⟨q, hq⟩ : ∃ q, allW of l = q := ⟨_, rfl⟩
  have HQ := Lib.hid hq
  rw [hq]
  clear hq
  go_enter Tryz.func220, Tryz.ntmps220
  go_wp2_with fail
  have hb1 := below_alloc' (Below.refl w.heap.size w) (.cells #[.slice a l.length c] 39)
  refine (contf_any Q _ _ _ u l of (cell_of_block (alloc_at _ _) 0 _ rfl) (HB.out.1.below hb1) hl (HB.out.2.below hb1) hof).mono ?_
  rintro e w1 ⟨rfl, rfl⟩
  rw [HQ.out]
  go_wp2
  go_ret
  exact ⟨rfl, hb1⟩
end Go.Proofs.YtofofjfmhaggmaaGreatDoor
/-! A scope whose jumps all go ahead to one label. -/
namespace Go.Proofs.YtofofjfmhaggmaaGreatDoor
section
variable {P : Program} {a : Act} {w : World} {Q : Exit → Act → World → Prop}
theorem wp_scope_ahead {c rest : Code} (l : Nat) (hf : findLabel c l = some rest) (h : c.wp P (Exit.jump l (fun a w => rest.wp P (Exit.noGoto Q) a w) Q) a w) : (Code.scope c).wp P Q a w :=
  wp_scope_jumps l (fun a w => rest.wp P (Exit.noGoto Q) a w) (fun _ _ => 0) hf h fun a w hJ => wp_mono hJ fun e a' w' hq => by
    cases e <;> first | exact hq | exact hq.elim
theorem Exit_jump_ret (l : Nat) (J : Act → World → Prop) : Exit.jump l J Q .ret a w = Q .ret a w := rfl
end
end Go.Proofs.YtofofjfmhaggmaaGreatDoor
/-! What is wrong with a place; a node put, by the program. -/
set_option linter.unusedVariables false
set_option linter.unusedSimpArgs false
namespace Go.Proofs.YtofofjfmhaggmaaGreatDoor
open Go.RowKit

/-- What is wrong with a place whose node is there, or not. -/
def errW (b : Bool) : Int := if b then 0 else 5
theorem node_agg {Q : Nat → Prop} {w : World} {v : Value} {L : LedL} {nm : List UInt8} (h : (∃ n, getN L.nodes nm = some n ∧ NodeQ Q w v n) ∨ (getN L.nodes nm = none ∧ v = zNode)) : ∃ s a b u x c, v = .agg #[.string s, .int .i64 a, .int .i64 b, u, x, .bool c] ∧ (∃ p l k, u = .slice p l k) ∧ (∃ p l k, x = .slice p l k) := by
  rcases h with ⟨n, _, u, x, rfl, h1, h2⟩ | ⟨_, rfl⟩
  · exact ⟨_, _, _, _, _, _, rfl, own_slice h1.1, own_slice h2.1⟩
  · exact ⟨_, _, _, _, _, _, rfl, ⟨_, _, _, rfl⟩, ⟨_, _, _, rfl⟩⟩
set_option maxRecDepth 100000 in
set_option maxHeartbeats 2000000 in
theorem lwrong_any (Q : Nat → Prop) (w : World) (l a b : Nat) (L : LedL) (h : LedAt Q w l a b L) (p : PlaceL) :
    Calls Tryz.prog 102 #[.pointer (some ⟨l, 0, none⟩), .agg (placeV p).toArray] w fun e w' => e = .returned (.int .i64 (errW (hasN L.nodes p.node))) ∧ Below w.heap.size w w' := by
  have H := Lib.hid h
  clear h
  unfold placeV
  obtain ⟨nm, hnm⟩ : ∃ y, str p.node = y := ⟨_, rfl⟩
  have HNM := Lib.hid hnm
  rw [hnm]
  clear hnm
  go_enter Tryz.func102, Tryz.ntmps102
  go_upto_region 1 with fail
  have z0 := alloc_at w (.cells #[.string (str p.pod), .string nm, .int .i64 p.cpu, .int .i64 p.mem, .bool p.alone] 143)
  have hb0 : Below w.heap.size w (w.alloc (.cells #[.string (str p.pod), .string nm, .int .i64 p.cpu, .int .i64 p.mem, .bool p.alone] 143)) := below_alloc' (Below.refl _ _) _
  generalize World.alloc w _ = w1 at z0 hb0 ⊢
  have HL1 := Lib.hid (H.out.below hb0)
  obtain ⟨v, hl0, hv⟩ := HL1.out.look_nodeS p.node
  rw [HNM.out] at hl0
  obtain ⟨s, a1, b1, u, x, c, rfl, ⟨pu, lu, ku, rfl⟩, ⟨px, lx, kx, rfl⟩⟩ := node_agg hv
  obtain ⟨has, hhas⟩ : ∃ q, hasN L.nodes p.node = q := ⟨_, rfl⟩
  rw [hhas] at hl0
  have HHAS := Lib.hid hhas
  have hfacts : ∀ w6, Shp w1.heap.size w1.drew w6 → w6.cell? ⟨l, 0, none⟩ = some (.map (some a)) ∧ w6.cell? ⟨w.heap.size, 1, none⟩ = some (.string nm) ∧ (Instr.lookup 144 (.map (some a)) (.string nm) true).run Tryz.prog w6 = .ok (.tuple #[.agg #[.string s, .int .i64 a1, .int .i64 b1, .slice pu lu ku, .slice px lx kx, .bool c], .bool has]) w6 := fun w6 hb => by
    have hb' : Below w1.heap.size w1 w6 := (Below.refl w1.heap.size w1).drew.trans (hb (Nat.le_refl _)).1
    have k := block_below z0 hb'
    exact ⟨cell_of_block (block_below HL1.out.box hb') 0 _ rfl, cell_of_block k 1 _ rfl, by simpa using hl0 w6 (hb'.block a HL1.out.lt.2.1) true⟩
  have HF := Lib.hid hfacts
  have Z0 := Lib.hid (And.intro z0 hb0)
  clear hfacts hl0 hv hhas z0 hb0
  refine' Par.wp_region_pars (Shp w1.heap.size) 12 (by kernel_rfl) (by kernel_rfl) (by kernel_rfl) (by kernel_rfl) (by kernel_rfl) (by kernel_rfl)
    (fun w => Shp.refl _ w) (fun h k => Shp.trans h k) (fun vals => ?_)
  rotate_left
  simp only [List.take_succ_cons, List.take_zero, List.drop_succ_cons, List.drop_zero]
  iterate 3 (apply Par.par_x rfl; (focus (intro w6 hR hD K hK; replace hK := Lib.hid hK; skip; clear hR hD; go_simp; exact hK.out _ (Shp.refl _ _))); simp only [Act.put, List.setIfInBounds_toArray, List.set_cons_zero, List.set_cons_succ, Nat.reduceAdd, List.cons_append, List.nil_append])
  (apply Par.par_x rfl; (focus (intro w6 hR hD K hK; replace hK := Lib.hid hK; obtain ⟨e0, e1, e2⟩ := HF.out w6 hR; clear hR hD; go_simp; exact hK.out _ (Shp.refl _ _))); simp only [Act.put, List.setIfInBounds_toArray, List.set_cons_zero, List.set_cons_succ, Nat.reduceAdd, List.cons_append, List.nil_append])
  (apply Par.par_x rfl; (focus (intro w6 hR hD K hK; replace hK := Lib.hid hK; skip; clear hR hD; go_simp; exact hK.out _ (Shp.refl _ _))); simp only [Act.put, List.setIfInBounds_toArray, List.set_cons_zero, List.set_cons_succ, Nat.reduceAdd, List.cons_append, List.nil_append])
  iterate 2 (apply Par.par_x rfl; (focus (intro w6 hR hD K hK; replace hK := Lib.hid hK; obtain ⟨e0, e1, e2⟩ := HF.out w6 hR; clear hR hD; go_simp; exact hK.out _ (Shp.refl _ _))); simp only [Act.put, List.setIfInBounds_toArray, List.set_cons_zero, List.set_cons_succ, Nat.reduceAdd, List.cons_append, List.nil_append])
  iterate 3 (apply Par.par_x rfl; (focus (intro w6 hR hD K hK; replace hK := Lib.hid hK; skip; clear hR hD; go_simp; exact hK.out _ (Shp.refl _ _))); simp only [Act.put, List.setIfInBounds_toArray, List.set_cons_zero, List.set_cons_succ, Nat.reduceAdd, List.cons_append, List.nil_append])
  (apply Par.par_r (fun v w' => New6 w1.heap.size 60 v w' ∧ w1.heap.size ≤ w'.heap.size) rfl (fun v x y h k => ⟨h.1.shp k h.2, Nat.le_trans h.2 (k h.2).1.size⟩); (focus (intro w6 hR hD K hK; replace hK := Lib.hid hK; have hs : w1.heap.size ≤ w6.heap.size := (hR (Nat.le_refl _)).1.size; clear hR hD; go_simp; exact hK.out _ _ (Shp.of_below (below_alloc' (Below.refl _ _) _)) ⟨⟨_, _, _, _, _, _, _, rfl, hs, alloc_at _ _⟩, Nat.le_trans hs (by simp)⟩)); simp only [Act.put, List.setIfInBounds_toArray, List.set_cons_zero, List.set_cons_succ, Nat.reduceAdd, List.cons_append, List.nil_append])
  (apply Par.par_x (e := undef) rfl; (focus (intro w6 hR hD K hK; replace hK := Lib.hid hK; obtain ⟨⟨g, c0, c1, c2, c3, c4, c5, eg, hg, hz⟩, hs⟩ : New6 w1.heap.size 60 (vals 10) w6 ∧ w1.heap.size ≤ w6.heap.size := hD 10 (by kernel_rfl); simp only [eg] at hK ⊢; have k0 := cell_of_block hz 0 _ rfl; have k1 := cell_of_block hz 1 _ rfl; have k2 := cell_of_block hz 2 _ rfl; have k3 := cell_of_block hz 3 _ rfl; have k4 := cell_of_block hz 4 _ rfl; have k5 := cell_of_block hz 5 _ rfl; have kf := free_of_block hz; have HZ := Lib.hid (And.intro hz hg); clear hR hD hz hg hs eg; go_simp; exact hK.out _ (Shp.of_gb HZ.out.1 (put6 _ _ _ _ _ _ HZ.out.1).1 rfl (put6 _ _ _ _ _ _ HZ.out.1).2 HZ.out.2))); simp only [Act.put, List.setIfInBounds_toArray, List.set_cons_zero, List.set_cons_succ, Nat.reduceAdd, List.cons_append, List.nil_append])
  refine Par.par_end fun w6 hR hp => ?_
  have hb' : Below w1.heap.size w1 w6 := (Below.refl w1.heap.size w1).drew.trans (hR (Nat.le_refl _)).1
  have z0 := block_below Z0.out.1 hb'
  have k2 := cell_of_block z0 2 _ rfl
  have k3 := cell_of_block z0 3 _ rfl
  have HB := Lib.hid (below_call Z0.out.2 hb')
  clear hp hR hb' z0
  cases has with
  | false =>
    go_wp2
    go_ret
    exact ⟨ret_int (by rw [HHAS.out]; rfl), HB.out⟩
  | true =>
    go_wp2_with fail
    refine (right_any p.cpu p.mem w6).mono ?_
    rintro e w7 ⟨rfl, hb⟩
    have HB7 := Lib.hid (below_call HB.out hb)
    clear hb
    go_wp2
    go_ret
    exact ⟨ret_int (by rw [HHAS.out]; rfl), HB7.out⟩
end Go.Proofs.YtofofjfmhaggmaaGreatDoor
