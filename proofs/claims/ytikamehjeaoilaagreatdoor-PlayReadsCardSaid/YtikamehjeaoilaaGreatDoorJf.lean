/- The pods that are left of a line, by play. -/
import Derived.Test.YtikamehjeaoilaaGreatDoorJb
import Derived.Test.YtikamehjeaoilaaGreatDoorTd
import Derived.Test.YtikamehjeaoilaaGreatDoorIc
import Derived.Test.YtikamehjeaoilaaGreatDoorTe
set_option linter.unusedVariables false
set_option linter.unusedSimpArgs false
namespace Go.Proofs.YtikamehjeaoilaaGreatDoor
open Go.RowKit

/-- A row of pods of the call's own, their texts in blocks from base on. -/
def PodsT (base : Nat) (w : World) (v : Value) (l : List PodL) : Prop :=
  ∃ c, w.ownsRow base 54 7 v l.length (flat l.length c) ∧ ∀ i, (h : i < l.length) → PodT base w (c i) l[i]
theorem PodsT.nil (base : Nat) (w : World) : PodsT base w (.slice none 0 0) [] := ⟨fun _ => [], World.ownsRow_nil _ _ _ _, fun i h => absurd h (Nat.not_lt_zero _)⟩
theorem PodT.kept {base : Nat} {w w' : World} {cs : List Value} {p : PodL} (h : PodT base w cs p) (k : ∀ (b : Nat) (cs : Array Value), w.heap[b]? = some (.cells cs 9 (0, 0)) → w'.heap[b]? = some (.cells cs 9 (0, 0))) : PodT base w' cs p := by
  obtain ⟨u, v, e, h1, h2⟩ := h
  exact ⟨u, v, e, h1.kept k, h2.kept k⟩
theorem PodT.one {base : Nat} {w : World} {cs : List Value} {p : PodL} (h : PodT base w cs p) : ∀ u ∈ cs, u.oneCell' = true := by
  obtain ⟨u, v, rfl, ⟨a, c, rfl, _⟩, ⟨a', c', rfl, _⟩⟩ := h
  simp [Value.oneCell']
theorem PodsT.below {base : Nat} {w w' : World} {v : Value} {l : List PodL} (h : PodsT base w v l) (k : Below w.heap.size w w') : PodsT base w' v l := by
  obtain ⟨c, h1, h2⟩ := h
  exact ⟨c, own_below h1 k, fun i hi => (h2 i hi).below k⟩
theorem PodsT.base {b b' : Nat} {w : World} {v : Value} {l : List PodL} (h : PodsT b w v l) (k : b' ≤ b) : PodsT b' w v l := by
  obtain ⟨c, h1, h2⟩ := h
  exact ⟨c, own_base h1 k, fun i hi => (h2 i hi).base k⟩
theorem PodsT.one {base : Nat} {w : World} {l : List PodL} {c : Nat → List Value} (h : ∀ i, (h : i < l.length) → PodT base w (c i) l[i]) : ∀ u ∈ flat l.length c, u.oneCell' = true := fun u hu => by
  obtain ⟨i, hi, hm⟩ := flat_mem hu
  exact (h i hi).one u hm
theorem own_gbx {w w' : World} {base n size t : Nat} {e e' : TypeId} {v : Value} {xs : List Value} {cs : Array Value} (h : w.ownsRow base e size v n xs) (ht : w.heap[t]? = some (.cells cs e' (0, 0))) (hne : e ≠ e') (k : Gb t w w') : w'.ownsRow base e size v n xs :=
  own_same h fun g ds hg _ => (Gb.block' k hg fun eg => by
    subst eg
    rw [ht] at hg
    injection hg with hg
    injection hg with _ hg
    exact hne hg.symm).trans hg.symm
theorem PodsT.gb {base t : Nat} {w w' : World} {v : Value} {l : List PodL} {cs : Array Value} (h : PodsT base w v l) (ht : w.heap[t]? = some (.cells cs 59 (0, 0))) (k : Gb t w w') : PodsT base w' v l := by
  obtain ⟨c, h1, h2⟩ := h
  refine ⟨c, own_gbx h1 ht (by decide) k, fun i hi => (h2 i hi).kept fun b ds hb => Gb.block' k hb fun eg => ?_⟩
  subst eg
  rw [ht] at hb
  injection hb with hb
  injection hb with _ hb
  exact absurd hb (by decide)
/-- One pod more. -/
theorem PodsT.snoc {base : Nat} {w w1 : World} {v v' : Value} {l : List PodL} {cs : List Value} {p : PodL} {c : Nat → List Value}
    (h1 : w.ownsRow base 54 7 v l.length (flat l.length c)) (h2 : ∀ i, (h : i < l.length) → PodT base w (c i) l[i]) (hp : PodT base w cs p)
    (hown : w1.ownsRow base 54 7 v' (l.length + 1) (flat l.length c ++ cs)) (hg : w.grownBy w1 v.ownBlock) : PodsT base w1 v' (l ++ [p]) := by
  have hk : ∀ (b : Nat) (ds : Array Value), w.heap[b]? = some (.cells ds 9 (0, 0)) → w1.heap[b]? = some (.cells ds 9 (0, 0)) := fun b ds hb => by
    refine (hg.block b (Array.getElem?_eq_some_iff.1 hb).1 fun hv => ?_).trans hb
    obtain ⟨es, hes⟩ := own_block h1 hv.symm
    rw [hb] at hes
    injection hes with hes
    injection hes with _ hes
    exact absurd hes (by decide)
  refine ⟨fun i => if i = l.length then cs else c i, ?_, fun i hi => ?_⟩
  · rw [List.length_append, List.length_singleton, flat_succ, if_pos rfl]
    rw [flat_ext (d := c) fun i hi => if_neg (by omega)]
    exact hown
  · by_cases e : i = l.length
    · subst e
      simp only [if_true]
      rw [List.getElem_concat_length rfl]
      exact hp.kept hk
    · rw [List.length_append, List.length_singleton] at hi
      simp only [if_neg e]
      rw [List.getElem_append_left (by omega)]
      exact (h2 i (by omega)).kept hk
theorem Tak.grown {w w' : World} {t g j base n : Nat} {ls : List (List UInt8)} {no : Bool} {v : Value} {xs : List Value} (h : Tak w t g ls j no) (hown : w.ownsRow base 54 7 v n xs) (hg : w.grownBy w' v.ownBlock) : Tak w' t g ls j no := by
  obtain ⟨⟨c, a, h1, h2⟩, h3, h4⟩ := h
  exact ⟨⟨c, a, (hg.block t (Array.getElem?_eq_some_iff.1 h1).1 fun e => own_ne hown h1 (by decide) e.symm).trans h1, h2⟩, (hg.block g (Array.getElem?_eq_some_iff.1 h3).1 fun e => own_ne hown h3 (by decide) e.symm).trans h3, h4⟩
theorem Gb.grew {w w1 w2 : World} {t : Nat} {row : Option Nat} (h : Gb t w w1) (hg : w1.grownBy w2 row) (hrow : ∀ k, row = some k → w.heap.size ≤ k) : Gb t w w2 :=
  ⟨hg.os.trans h.os, hg.tape.trans h.tape, hg.output.trans h.output, Nat.le_trans h.size hg.size, fun k hk hne => (hg.block k (Nat.lt_of_lt_of_le hk h.size) fun e => by have := hrow k e.symm; omega).trans (h.block k hk hne)⟩
def lenOf : Value → Nat | .slice _ n _ => n | _ => 0
theorem td_succ {α : Type} {ls : List α} {i j : Nat} (hj : j ≤ i) (hi : i < ls.length) : (ls.take (i + 1)).drop j = (ls.take i).drop j ++ [ls[i]] := by
  rw [List.take_succ_eq_append_getElem hi, List.drop_append_of_le_length (by rw [List.length_take]; omega)]
def PodsPost (w : World) (t g j : Nat) (ls : List (List UInt8)) (no : Bool) (e : Ending) (w' : World) : Prop :=
  ∃ v, e = .returned v ∧ PodsT w.heap.size w' v ((ls.drop j).map podX) ∧ Tak w' t g ls ls.length (no || (ls.drop j).any fun s => !podB s) ∧ Gb t w w'
set_option maxHeartbeats 8000000 in
set_option maxRecDepth 1000000 in
theorem ppods_any (w0 w : World) (t g j : Nat) (ls : List (List UInt8)) (no : Bool) (hT : Tabs w0) (hb0 : Below w0.heap.size w0 w) (ht0 : w0.heap.size ≤ t) (h : Tak w t g ls j no) (hf : few ls) (hl : ∀ l ∈ ls, l.length ≤ 4294967000) :
    Calls Tryz.prog 43 #[.pointer (some ⟨t, 0, none⟩)] w (PodsPost w t g j ls no) := by
  have HT := Lib.hid hT
  have HB0 := Lib.hid hb0
  have HH := Lib.hid h
  have HF := Lib.hid hf
  have HL := Lib.hid hl
  have HT0 := Lib.hid ht0
  have hjl := h.2.2
  clear hT hb0 h hf hl ht0
  go_enter Tryz.func43, Tryz.ntmps43
  go_wp2_with fail
  go_loopw [3] (fun u wr => ∃ (i : Nat) (no' : Bool), j ≤ i ∧ Tak wr t g ls i no' ∧ no' = (no || ((ls.take i).drop j).any fun s => !podB s) ∧ PodsT w.heap.size wr u (((ls.take i).drop j).map podX) ∧ Gb t w wr) (fun u _ => ls.length - lenOf u)
  case atStart =>
    have e0 : (ls.take j).drop j = [] := by rw [List.drop_eq_nil_iff, List.length_take]; omega
    exact ⟨j, no, Nat.le_refl _, HH.out, by rw [e0]; simp, by rw [e0]; exact PodsT.nil _ _, Gb.refl _ _⟩
  case round =>
    obtain ⟨i, no', hji, htak, hno', hpods, hgb⟩ := hrel
    obtain ⟨⟨c0, a0, hz0, hc0, ha0⟩, hblk, hil⟩ := id htak
    have cl := cell_of_block hz0 0 _ rfl
    have HTAK := Lib.hid htak
    have HNO := Lib.hid hno'
    have HPODS := Lib.hid hpods
    have HGB := Lib.hid hgb
    have HZ0 := Lib.hid hz0
    obtain ⟨lf, hlf⟩ : ∃ lf, ls.length - i = lf := ⟨_, rfl⟩
    rw [hlf] at cl hc0
    have HLF := Lib.hid hlf
    clear htak hno' hpods hgb hz0 hblk ha0 hlf
    by_cases hi : i < ls.length
    · have hlf0 : (0 : Int) < lf := by have := HLF.out; omega
      go_wp2_with fail
      refine (take_some wr t g i ls no' HTAK.out hi (by have := HF.out.1; omega)).mono ?_
      rintro e w3 ⟨rfl, ht3, hg3⟩
      have hB3 : Below w0.heap.size w0 w3 := Gb.below (Gb.below HB0.out HGB.out HT0.out HB0.out.size) hg3 HT0.out (Gb.below HB0.out HGB.out HT0.out HB0.out.size).size
      have hP3 := PodsT.gb HPODS.out HZ0.out hg3
      have HB3 := Lib.hid hB3
      have HP3 := Lib.hid hP3
      have HTK3 := Lib.hid ht3
      have HG3 := Lib.hid (HGB.out.trans hg3)
      clear hB3 hP3 ht3 hg3 cl hc0
      go_wp2_with fail
      refine (ppod_any ls[i] w3 (HT.out.below HB3.out) (HL.out _ (List.getElem_mem hi))).mono ?_
      rintro e w4 ⟨cs, rfl, hp4, hb4⟩
      have ht4 := HTK3.out.below hb4
      have hP4 := HP3.out.below hb4
      have HB4 := Lib.hid (HB3.out.trans (hb4.mono HB3.out.size))
      have HG4 := Lib.hid (HG3.out.trans (Gb.of_below hb4))
      have hpb4 := hp4.base (show w.heap.size ≤ w3.heap.size from HG3.out.size)
      obtain ⟨pu, pv, rfl, hu, hv⟩ := id hp4
      obtain ⟨au, cu, rfl, -⟩ := hu
      obtain ⟨av, cv, rfl, -⟩ := hv
      obtain ⟨zn, hzn⟩ : ∃ z, str (podX ls[i]).name = z := ⟨_, rfl⟩
      obtain ⟨n1, hn1⟩ : ∃ z, (podX ls[i]).shard = z := ⟨_, rfl⟩
      obtain ⟨n2, hn2⟩ : ∃ z, (podX ls[i]).cpu = z := ⟨_, rfl⟩
      obtain ⟨n3, hn3⟩ : ∃ z, (podX ls[i]).mem = z := ⟨_, rfl⟩
      obtain ⟨fl, hfl⟩ : ∃ z, (podX ls[i]).alone = z := ⟨_, rfl⟩
      obtain ⟨lu, hlu⟩ : ∃ z, (podX ls[i]).picks.length = z := ⟨_, rfl⟩
      obtain ⟨lv, hlv⟩ : ∃ z, (podX ls[i]).bears.length = z := ⟨_, rfl⟩
      obtain ⟨pb, hpb⟩ : ∃ z, podB ls[i] = z := ⟨_, rfl⟩
      rw [hzn, hn1, hn2, hn3, hfl, hlu, hlv] at hpb4
      rw [hzn, hn1, hn2, hn3, hfl, hlu, hlv, hpb]
      have HPB := Lib.hid hpb
      have HPP := Lib.hid hpb4
      clear hzn hn1 hn2 hn3 hfl hlu hlv hpb hp4 hpb4
      have hlt4 : t < w4.heap.size := by obtain ⟨⟨c1, a1, h1, _⟩, _⟩ := ht4; exact (Array.getElem?_eq_some_iff.1 h1).1
      have ht5 : ∀ o, Tak (w4.alloc o) t g ls (i + 1) no' := fun o => ht4.below (below_alloc' (Below.refl _ _) _)
      have hn5 : ∀ o, (w4.alloc o).cell? ⟨t, 1, none⟩ = some (.bool no') := fun o => (ht5 o).no.1
      have hf5 : ∀ o, (w4.alloc o).frozen? ⟨t, 1, none⟩ = false := fun o => (ht5 o).no.2
      have hz5 : ∀ b, ((w4.alloc (.cells #[.string zn, .int .i64 n1, .int .i64 n2, .int .i64 n3, .slice au lu cu, .slice av lv cv, .bool fl] 54)).setCell ⟨t, 1, none⟩ (.bool b)).heap[w4.heap.size]? = some (.cells #[.string zn, .int .i64 n1, .int .i64 n2, .int .i64 n3, .slice au lu cu, .slice av lv cv, .bool fl] 54 (0, 0)) := fun b => (Below.heap_setCell _ _ _ _ (by simp; omega)).trans (alloc_at _ _)
      have q0 := fun b => cell_of_block (hz5 b) 0 _ rfl
      have q1 := fun b => cell_of_block (hz5 b) 1 _ rfl
      have q2 := fun b => cell_of_block (hz5 b) 2 _ rfl
      have q3 := fun b => cell_of_block (hz5 b) 3 _ rfl
      have q4 := fun b => cell_of_block (hz5 b) 4 _ rfl
      have q5 := fun b => cell_of_block (hz5 b) 5 _ rfl
      have q6 := fun b => cell_of_block (hz5 b) 6 _ rfl
      obtain ⟨c, hrow4, hel4⟩ := hP4
      have hlen4 : (((ls.take i).drop j).map podX).length = i - j := by rw [List.length_map, List.length_drop, List.length_take]; omega
      have hT4 : ∃ ds, (w4.alloc (.cells #[.string zn, .int .i64 n1, .int .i64 n2, .int .i64 n3, .slice au lu cu, .slice av lv cv, .bool fl] 54)).heap[t]? = some (.cells ds 59 (0, 0)) := by obtain ⟨⟨c1, a1, h1, _⟩, _⟩ := ht5 (.cells #[.string zn, .int .i64 n1, .int .i64 n2, .int .i64 n3, .slice au lu cu, .slice av lv cv, .bool fl] 54); exact ⟨_, h1⟩
      obtain ⟨ds, hds⟩ := hT4
      have HROW := Lib.hid (fun b => own_gbx (own_below hrow4 (below_alloc' (Below.refl w4.heap.size w4) (.cells #[.string zn, .int .i64 n1, .int .i64 n2, .int .i64 n3, .slice au lu cu, .slice av lv cv, .bool fl] 54))) hds (by decide) (Gb.set _ t 1 (.bool b)))
      have HEL := Lib.hid (fun b i hi => ((hel4 i hi).below (below_alloc' (Below.refl w4.heap.size w4) (.cells #[.string zn, .int .i64 n1, .int .i64 n2, .int .i64 n3, .slice au lu cu, .slice av lv cv, .bool fl] 54))).kept fun bb es hb => Gb.block' (Gb.set _ t 1 (.bool b)) hb (fun e => by subst e; rw [hds] at hb; injection hb with hb; injection hb with _ hb; exact absurd hb (by decide)))
      have HPE := Lib.hid (fun b => (HPP.out.below (below_alloc' (Below.refl w4.heap.size w4) (.cells #[.string zn, .int .i64 n1, .int .i64 n2, .int .i64 n3, .slice au lu cu, .slice av lv cv, .bool fl] 54))).kept fun bb es hb => Gb.block' (Gb.set _ t 1 (.bool b)) hb (fun e => by subst e; rw [hds] at hb; injection hb with hb; injection hb with _ hb; exact absurd hb (by decide)))
      have HT5 := Lib.hid (fun b => (ht5 (.cells #[.string zn, .int .i64 n1, .int .i64 n2, .int .i64 n3, .slice au lu cu, .slice av lv cv, .bool fl] 54)).set1 b)
      have HIL := Lib.hid (show (((ls.take i).drop j).map podX).length ≤ 4294967296 by have := HF.out.1; omega)
      have HHI := Lib.hid hi
      have HHJ := Lib.hid hji
      have HL4 := Lib.hid hlen4
      have HHL := Lib.hid hlt4
      clear ht4 ht5 hz5 hrow4 hel4 hlen4 hds hji hlt4
      cases no'
      · go_wp2_with (at_builtin; refine list_appends elt_pods _ _ rfl rfl rfl rfl (World.ownsRow.alloc (HROW.out _) _) (show (([.string zn, .int .i64 n1, .int .i64 n2, .int .i64 n3, .slice au lu cu, .slice av lv cv, .bool fl] : List Value)).length = 1 * 7 from rfl) (World.news_of_block (alloc_is (by simp) _)) (by simp [Value.oneCell']) (by have := HIL.out; omega) (by have := HG4.out.size; simp; omega) ?_; intro v' w6 hown hgrow; have HO6 := Lib.hid hown; have HG6 := Lib.hid hgrow; clear hown hgrow)
        go_roundw
        case rel =>
          have hk := td_succ HHJ.out hi
          refine ⟨i + 1, (!pb), by have := HHJ.out; omega, ((HT5.out (!pb)).below (below_alloc' (Below.refl _ _) _)).grown (World.ownsRow.alloc (HROW.out (!pb)) _) HG6.out, ?_, ?_, ?_⟩
          · rw [hk, List.any_append, ← Bool.or_assoc, ← HNO.out]
            simp [HPB.out]
          · rw [hk, List.map_append]
            exact PodsT.snoc (World.ownsRow.alloc (HROW.out (!pb)) _) (fun q hq => (HEL.out (!pb) q hq).below (below_alloc' (Below.refl _ _) _)) ((HPE.out (!pb)).below (below_alloc' (Below.refl _ _) _)) HO6.out HG6.out
          · exact (((HG4.out.trans (Gb.of_below (below_alloc' (Below.refl _ _) _))).trans (Gb.set _ t 1 _)).trans (Gb.of_below (below_alloc' (Below.refl _ _) _))).grew HG6.out (fun q hq => ((HROW.out (!pb)).lt q hq).1)
        case measure =>
          obtain ⟨y1, y2, e1⟩ := own_slicen (HROW.out (!pb))
          obtain ⟨y3, y4, e2⟩ := own_slicen HO6.out
          rw [e1, e2]
          simp only [lenOf, HL4.out]
          have := HHJ.out
          omega
      · go_wp2_with (at_builtin; refine list_appends elt_pods _ _ rfl rfl rfl rfl (World.ownsRow.alloc (HROW.out _) _) (show (([.string zn, .int .i64 n1, .int .i64 n2, .int .i64 n3, .slice au lu cu, .slice av lv cv, .bool fl] : List Value)).length = 1 * 7 from rfl) (World.news_of_block (alloc_is (by simp) _)) (by simp [Value.oneCell']) (by have := HIL.out; omega) (by have := HG4.out.size; simp; omega) ?_; intro v' w6 hown hgrow; have HO6 := Lib.hid hown; have HG6 := Lib.hid hgrow; clear hown hgrow)
        go_roundw
        case rel =>
          have hk := td_succ HHJ.out hi
          refine ⟨i + 1, true, by have := HHJ.out; omega, ((HT5.out true).below (below_alloc' (Below.refl _ _) _)).grown (World.ownsRow.alloc (HROW.out true) _) HG6.out, ?_, ?_, ?_⟩
          · rw [hk, List.any_append, ← Bool.or_assoc, ← HNO.out]
            simp [HPB.out]
          · rw [hk, List.map_append]
            exact PodsT.snoc (World.ownsRow.alloc (HROW.out true) _) (fun q hq => (HEL.out true q hq).below (below_alloc' (Below.refl _ _) _)) ((HPE.out true).below (below_alloc' (Below.refl _ _) _)) HO6.out HG6.out
          · exact (((HG4.out.trans (Gb.of_below (below_alloc' (Below.refl _ _) _))).trans (Gb.set _ t 1 _)).trans (Gb.of_below (below_alloc' (Below.refl _ _) _))).grew HG6.out (fun q hq => ((HROW.out true).lt q hq).1)
        case measure =>
          obtain ⟨y1, y2, e1⟩ := own_slicen (HROW.out true)
          obtain ⟨y3, y4, e2⟩ := own_slicen HO6.out
          rw [e1, e2]
          simp only [lenOf, HL4.out]
          have := HHJ.out
          omega
    · have hie : i = ls.length := by omega
      have hl0 : lf = 0 := by have := HLF.out; omega
      subst hl0
      obtain ⟨c, hrow, hel⟩ := HPODS.out
      have HROW := Lib.hid hrow
      have HEL := Lib.hid hel
      have HIE := Lib.hid hie
      have HIL := Lib.hid (show (((ls.take i).drop j).map podX).length ≤ 1099511627776 by rw [List.length_map, List.length_drop, List.length_take]; have := HF.out.1; omega)
      clear hrow hel hi hie
      go_wp2_with fail
      refine (clone_pods wr _ _ w.heap.size _ HROW.out (PodsT.one HEL.out) HIL.out).mono ?_
      rintro e w3 ⟨v, rfl, hown, hb3⟩
      have htk : ls.take i = ls := by rw [HIE.out, List.take_length]
      have HTK := Lib.hid htk
      have HOWN := Lib.hid hown
      have HB3 := Lib.hid hb3
      clear hown hb3 htk
      go_wp2
      go_ret
      refine ⟨v, rfl, ?_, ?_, HGB.out.trans (Gb.of_below HB3.out)⟩
      · have h1 := HOWN.out
        have h2 := HEL.out
        rw [HTK.out] at h1 h2
        exact ⟨c, own_base h1 HGB.out.size, fun q hq => (h2 q hq).below HB3.out⟩
      · have h1 := HTAK.out.below HB3.out
        rw [HNO.out, HTK.out, HIE.out] at h1
        exact h1
end Go.Proofs.YtikamehjeaoilaaGreatDoor
/-! An event while it is read: its cells, and what a part changes. -/
set_option linter.unusedVariables false
set_option linter.unusedSimpArgs false
namespace Go.Proofs.YtikamehjeaoilaaGreatDoor
open Go.RowKit

/-- All stands but blocks t and v. -/
structure Gb2 (t v : Nat) (w w' : World) : Prop where
  os : w'.os = w.os
  tape : w'.tape = w.tape
  output : w'.output = w.output
  size : w.heap.size ≤ w'.heap.size
  block : ∀ k, k < w.heap.size → k ≠ t → k ≠ v → w'.heap[k]? = w.heap[k]?
theorem Gb2.refl (t v : Nat) (w : World) : Gb2 t v w w := ⟨rfl, rfl, rfl, Nat.le_refl _, fun _ _ _ _ => rfl⟩
theorem Gb2.trans {t v : Nat} {a b c : World} (h : Gb2 t v a b) (k : Gb2 t v b c) : Gb2 t v a c :=
  ⟨k.os.trans h.os, k.tape.trans h.tape, k.output.trans h.output, Nat.le_trans h.size k.size, fun i hi h1 h2 => (k.block i (Nat.lt_of_lt_of_le hi h.size) h1 h2).trans (h.block i hi h1 h2)⟩
theorem Gb2.left {t v : Nat} {w w' : World} (h : Gb t w w') : Gb2 t v w w' := ⟨h.os, h.tape, h.output, h.size, fun k hk h1 _ => h.block k hk (by simpa using h1)⟩
theorem Gb2.right {t v : Nat} {w w' : World} (h : Gb v w w') : Gb2 t v w w' := ⟨h.os, h.tape, h.output, h.size, fun k hk _ h2 => h.block k hk (by simpa using h2)⟩
theorem Gb2.of_below {t v : Nat} {w w' : World} (h : Below w.heap.size w w') : Gb2 t v w w' := Gb2.left (Gb.of_below h)
theorem Gb2.below {t v B : Nat} {a w w' : World} (h : Below B a w) (k : Gb2 t v w w') (ht : B ≤ t) (hv : B ≤ v) (hB : B ≤ w.heap.size) : Below B a w' :=
  ⟨k.os.trans h.os, k.tape.trans h.tape, k.output.trans h.output, Nat.le_trans h.size k.size, fun i hi => (k.block i (Nat.lt_of_lt_of_le hi hB) (by omega) (by omega)).trans (h.block i hi)⟩

structure EvS where
  a : Nat
  b : Nat
  id : Nat
  pods : List PodL
  node : NodeL
def evS0 : EvS := ⟨0, 0, 0, [], noNode⟩
/-- An event's cells, and its rows. -/
def EvAt (base : Nat) (w : World) (ev k : Nat) (s : EvS) : Prop :=
  ∃ (vp u x : Value), w.heap[ev]? = some (.cells #[.int .i64 k, .int .i64 s.a, .int .i64 s.b, .int .i64 s.id, vp, .string (str s.node.name), .int .i64 s.node.cpu, .int .i64 s.node.mem, u, x, .bool s.node.closed] 33 (0, 0)) ∧
    PodsT base w vp s.pods ∧ Strs base w u (s.node.marks.map str) ∧ Strs base w x (s.node.taints.map str)
theorem EvAt.below {base : Nat} {w w' : World} {ev k : Nat} {s : EvS} (h : EvAt base w ev k s) (hb : Below w.heap.size w w') : EvAt base w' ev k s := by
  obtain ⟨vp, u, x, h1, h2, h3, h4⟩ := h
  exact ⟨vp, u, x, block_below h1 hb, h2.below hb, own_below h3 hb, own_below h4 hb⟩
theorem EvAt.lt {base : Nat} {w : World} {ev k : Nat} {s : EvS} (h : EvAt base w ev k s) : ev < w.heap.size := by
  obtain ⟨vp, u, x, h1, _⟩ := h
  exact (Array.getElem?_eq_some_iff.1 h1).1
theorem cells_ne {w : World} {b g : Nat} {cs ds : Array Value} {T U : TypeId} (h : w.heap[b]? = some (.cells cs T (0, 0))) (k : w.heap[g]? = some (.cells ds U (0, 0))) (hne : T ≠ U) : b ≠ g := fun e => by
  subst e
  rw [h] at k
  injection k with k
  injection k with _ k
  exact hne k
theorem EvAt.gbt {base t : Nat} {w w' : World} {ev k : Nat} {s : EvS} {cs : Array Value} (h : EvAt base w ev k s) (ht : w.heap[t]? = some (.cells cs 59 (0, 0))) (hg : Gb t w w') : EvAt base w' ev k s := by
  obtain ⟨vp, u, x, h1, h2, h3, h4⟩ := h
  exact ⟨vp, u, x, Gb.block' hg h1 (cells_ne h1 ht (by decide)), h2.gb ht hg, own_gbx h3 ht (by decide) hg, own_gbx h4 ht (by decide) hg⟩
theorem PodsT.ev {base ev : Nat} {w w' : World} {v : Value} {l : List PodL} {cs : Array Value} (h : PodsT base w v l) (ht : w.heap[ev]? = some (.cells cs 33 (0, 0))) (k : Gb ev w w') : PodsT base w' v l := by
  obtain ⟨c, h1, h2⟩ := h
  exact ⟨c, own_gbx h1 ht (by decide) k, fun i hi => (h2 i hi).kept fun b ds hb => Gb.block' k hb (cells_ne hb ht (by decide))⟩
theorem EvAt.setA {base : Nat} {w : World} {ev k : Nat} {s : EvS} (h : EvAt base w ev k s) (n : Nat) : EvAt base (w.setCell ⟨ev, 1, none⟩ (.int .i64 n)) ev k { s with a := n } := by
  obtain ⟨vp, u, x, h1, h2, h3, h4⟩ := h
  exact ⟨vp, u, x, heap_setCell_same w ev 1 _ _ _ h1, h2.ev h1 (Gb.set _ _ _ _), own_gbx h3 h1 (by decide) (Gb.set _ _ _ _), own_gbx h4 h1 (by decide) (Gb.set _ _ _ _)⟩
theorem EvAt.setB {base : Nat} {w : World} {ev k : Nat} {s : EvS} (h : EvAt base w ev k s) (n : Nat) : EvAt base (w.setCell ⟨ev, 2, none⟩ (.int .i64 n)) ev k { s with b := n } := by
  obtain ⟨vp, u, x, h1, h2, h3, h4⟩ := h
  exact ⟨vp, u, x, heap_setCell_same w ev 2 _ _ _ h1, h2.ev h1 (Gb.set _ _ _ _), own_gbx h3 h1 (by decide) (Gb.set _ _ _ _), own_gbx h4 h1 (by decide) (Gb.set _ _ _ _)⟩
theorem EvAt.setI {base : Nat} {w : World} {ev k : Nat} {s : EvS} (h : EvAt base w ev k s) (n : Nat) : EvAt base (w.setCell ⟨ev, 3, none⟩ (.int .i64 n)) ev k { s with id := n } := by
  obtain ⟨vp, u, x, h1, h2, h3, h4⟩ := h
  exact ⟨vp, u, x, heap_setCell_same w ev 3 _ _ _ h1, h2.ev h1 (Gb.set _ _ _ _), own_gbx h3 h1 (by decide) (Gb.set _ _ _ _), own_gbx h4 h1 (by decide) (Gb.set _ _ _ _)⟩
theorem EvAt.setP {base : Nat} {w : World} {ev k : Nat} {s : EvS} (h : EvAt base w ev k s) {v : Value} {ps : List PodL} (hp : PodsT base w v ps) : EvAt base (w.setCell ⟨ev, 4, none⟩ v) ev k { s with pods := ps } := by
  obtain ⟨vp, u, x, h1, h2, h3, h4⟩ := h
  exact ⟨v, u, x, heap_setCell_same w ev 4 _ _ _ h1, hp.ev h1 (Gb.set _ _ _ _), own_gbx h3 h1 (by decide) (Gb.set _ _ _ _), own_gbx h4 h1 (by decide) (Gb.set _ _ _ _)⟩
theorem EvAt.setM {base : Nat} {w : World} {ev k : Nat} {s : EvS} (h : EvAt base w ev k s) (l : List UInt8) : EvAt base (w.setCell ⟨ev, 5, none⟩ (.string (str l))) ev k { s with node := { s.node with name := l } } := by
  obtain ⟨vp, u, x, h1, h2, h3, h4⟩ := h
  exact ⟨vp, u, x, heap_setCell_same w ev 5 _ _ _ h1, h2.ev h1 (Gb.set _ _ _ _), own_gbx h3 h1 (by decide) (Gb.set _ _ _ _), own_gbx h4 h1 (by decide) (Gb.set _ _ _ _)⟩
theorem Gb.sets (g : Nat) : ∀ (vs : List Value) (o : Nat) (w : World), Gb g w (w.setCells g o vs)
  | [], _, w => Gb.refl g w
  | u :: r, o, w => (Gb.set w g o u).trans (Gb.sets g r (o + 1) _)
theorem EvAt.setN {base : Nat} {w : World} {ev k : Nat} {s : EvS} (h : EvAt base w ev k s) {u x : Value} {n : NodeL} (hu : Strs base w u (n.marks.map str)) (hx : Strs base w x (n.taints.map str)) : EvAt base (w.setCells ev 5 [.string (str n.name), .int .i64 n.cpu, .int .i64 n.mem, u, x, .bool n.closed]) ev k { s with node := n } := by
  obtain ⟨vp, u0, x0, h1, h2, h3, h4⟩ := h
  refine ⟨vp, u, x, ?_, h2.ev h1 (Gb.sets _ _ _ _), own_gbx hu h1 (by decide) (Gb.sets _ _ _ _), own_gbx hx h1 (by decide) (Gb.sets _ _ _ _)⟩
  have := heap_setCells ev 33 [.string (str n.name), .int .i64 n.cpu, .int .i64 n.mem, u, x, .bool n.closed] 5 w _ h1
  rw [this]
  simp [laid]
/-- A word, or none. -/
theorem take_any (w : World) (t g j : Nat) (ls : List (List UInt8)) (no : Bool) (h : Tak w t g ls j no) (hf : ls.length ≤ 4294967281) :
    Calls Tryz.prog 21 #[.pointer (some ⟨t, 0, none⟩)] w fun e w' => e = .returned (.string (str (ls.getD j []))) ∧ Tak w' t g ls (min (j + 1) ls.length) (no || decide (ls.length ≤ j)) ∧ Gb t w w' := by
  by_cases hj : j < ls.length
  · refine (take_some w t g j ls no h hj hf).mono ?_
    rintro e w' ⟨h1, h2, h3⟩
    rw [show ls.getD j [] = ls[j] by simp [List.getD_eq_getElem?_getD, hj], show min (j + 1) ls.length = j + 1 by omega, decide_eq_false (by omega), Bool.or_false]
    exact ⟨h1, h2, h3⟩
  · have hjl : j = ls.length := by have := h.2.2; omega
    subst hjl
    refine (take_none w t g ls no h).mono ?_
    rintro e w' ⟨h1, h2, h3⟩
    rw [show ls.getD ls.length [] = [] by simp [List.getD_eq_getElem?_getD], show min (ls.length + 1) ls.length = ls.length by omega, decide_eq_true (Nat.le_refl _), Bool.or_true]
    exact ⟨h1, h2, h3⟩
def partOk (c : Int) (ls : List (List UInt8)) (j : Nat) : Bool :=
  if c = 97 ∨ c = 98 then numP 999999 (ls.getD j []) else if c = 112 then (ls.drop j).all podB else if c = 110 then (nodeW (ls.getD j [])).isSome && decide (j < ls.length) else nameB (ls.getD j []) && decide (j < ls.length)
def partJ (c : Int) (ls : List (List UInt8)) (j : Nat) : Nat := if c = 112 then ls.length else min (j + 1) ls.length
def partE (k : Nat) (c : Int) (ls : List (List UInt8)) (j : Nat) (s : EvS) : EvS :=
  if c = 97 then (if k = 1 then { s with id := numV (ls.getD j []) } else { s with a := numV (ls.getD j []) })
  else if c = 98 then { s with b := numV (ls.getD j []) }
  else if c = 112 then { s with pods := (ls.drop j).map podX }
  else if c = 110 then { s with node := (nodeW (ls.getD j [])).getD noNode }
  else { s with node := { s.node with name := ls.getD j [] } }
end Go.Proofs.YtikamehjeaoilaaGreatDoor
/-! A part of an event, whichever. -/
set_option linter.unusedVariables false
set_option linter.unusedSimpArgs false
namespace Go.Proofs.YtikamehjeaoilaaGreatDoor
open Go.RowKit

theorem run_look_none {w : World} {r clock : Nat} {es : Array MapEntry} {k : Int} (hb : w.heap[r]? = some (.map es clock)) (hf : Instr.findNow (.int .i32) (.int .i32 k) es.toList 0 = some none) :
    (Instr.lookup 82 (.map (some r)) (.int .i32 k) false).run Tryz.prog w = .ok .nilIface w := by
  have hc : ∀ b, (Instr.checkKey b 10000 21 (.int .i32 k)).run Tryz.prog w = .ok () w := fun b => MapKept.run_checkKey (d := .int .i32) Tryz.underlying21 (by simp [MapKept.IsKey]) b 9999
  have hz : (zeroValue 20).run Tryz.prog w = .ok .nilIface w := by kernel_rfl
  simp [Instr.lookup, run_underlying Tryz.underlying82, MapKept.run_getObj_map hb, hc, MapKept.run_findKey Tryz.underlying21 hf, hz, Result.andThen]
theorem look_no {w : World} {r : Nat} {x y : Value} {k : Int} (hk : k = 112 ∨ k = 110 ∨ k = 109) (h : Ins w r x y true true) : (Instr.lookup 82 (.map (some r)) (.int .i32 k) false).run Tryz.prog w = .ok .nilIface w := by
  rcases hk with rfl | rfl | rfl <;> rcases h with h | h <;> exact run_look_none h rfl
def PartPost (base t ev g k : Nat) (c : Int) (ls : List (List UInt8)) (j : Nat) (no : Bool) (s : EvS) (w : World) (e : Ending) (w' : World) : Prop :=
  ∃ s', e = .returned (.tuple #[]) ∧ Tak w' t g ls (partJ c ls j) (no || !partOk c ls j) ∧ EvAt base w' ev k s' ∧ (partOk c ls j = true → s' = partE k c ls j s) ∧ Gb2 t ev w w'

theorem Tak.gbe {w w' : World} {t g j ev : Nat} {ls : List (List UInt8)} {no : Bool} {cs : Array Value} (h : Tak w t g ls j no) (hev : w.heap[ev]? = some (.cells cs 33 (0, 0))) (k : Gb ev w w') : Tak w' t g ls j no := by
  obtain ⟨⟨c, a, h1, h2⟩, h3, h4⟩ := h
  exact ⟨⟨c, a, Gb.block' k h1 (cells_ne h1 hev (by decide)), h2⟩, Gb.block' k h3 (cells_ne h3 hev (by decide)), h4⟩
theorem ok_a (ls : List (List UInt8)) (j : Nat) : partOk 97 ls j = numP 999999 (ls.getD j []) := by simp [partOk]
theorem ok_b (ls : List (List UInt8)) (j : Nat) : partOk 98 ls j = numP 999999 (ls.getD j []) := by simp [partOk]
theorem ok_p (ls : List (List UInt8)) (j : Nat) : partOk 112 ls j = (ls.drop j).all podB := by simp [partOk]
theorem ok_n (ls : List (List UInt8)) (j : Nat) : partOk 110 ls j = ((nodeW (ls.getD j [])).isSome && decide (j < ls.length)) := by simp [partOk]
theorem ok_m (ls : List (List UInt8)) (j : Nat) : partOk 109 ls j = (nameB (ls.getD j []) && decide (j < ls.length)) := by simp [partOk]
theorem not_any {α : Type} (p : α → Bool) : ∀ l : List α, (l.any fun x => !p x) = !l.all p
  | [] => rfl
  | x :: l => by simp [not_any p l]
theorem flag_n (no ok : Bool) (j n : Nat) : (no || !(ok && decide (j < n))) = ((no || decide (n ≤ j)) || !ok) := by
  by_cases h : j < n
  · have h2 : ¬ n ≤ j := by omega
    cases no <;> cases ok <;> simp [h, h2]
  · have h2 : n ≤ j := by omega
    cases no <;> cases ok <;> simp [h, h2]
theorem node_end {base t ev g j k : Nat} {w : World} {ls : List (List UInt8)} {nf : Bool} {s : EvS} {n : NodeL} {u x : Value} (T : Tak w t g ls j nf) (E : EvAt base w ev k s) (U : Strs base w u (n.marks.map str)) (X : Strs base w x (n.taints.map str)) (b : Bool) {zn : ByteArray} {n2 n3 : Nat} {fl : Bool}
    (h1 : str n.name = zn) (h2 : n.cpu = n2) (h3 : n.mem = n3) (h4 : n.closed = fl) {W : World} (hW : ((w.setCells ev 5 [.string zn, .int .i64 n2, .int .i64 n3, u, x, .bool fl]).setCell ⟨t, 1, none⟩ (.bool b)) = W) :
    Tak W.drew t g ls j b ∧ EvAt base W.drew ev k { s with node := n } ∧ Gb2 t ev w W.drew := by
  subst h1 h2 h3 h4
  obtain ⟨vp, u0, x0, hv, -⟩ := id E
  have hE := E.setN U X
  have hT := T.gbe hv (Gb.sets ev [.string (str n.name), .int .i64 n.cpu, .int .i64 n.mem, u, x, .bool n.closed] 5 w)
  have hG : Gb2 t ev w _ := Gb2.right (Gb.sets ev [.string (str n.name), .int .i64 n.cpu, .int .i64 n.mem, u, x, .bool n.closed] 5 w)
  generalize w.setCells ev 5 [.string (str n.name), .int .i64 n.cpu, .int .i64 n.mem, u, x, .bool n.closed] = W1 at hE hT hG hW
  obtain ⟨⟨ct, at', ht, -⟩, -⟩ := id hT
  have hT2 := hT.set1 b
  have hE2 := hE.gbt ht (Gb.set W1 t 1 (.bool b))
  have hG2 : Gb2 t ev w _ := hG.trans (Gb2.left (Gb.set W1 t 1 (.bool b)))
  rw [hW] at hT2 hE2 hG2
  have hd : Below W.heap.size W W.drew := (Below.refl _ _).drew
  exact ⟨hT2.below hd, hE2.below hd, hG2.trans (Gb2.of_below hd)⟩
theorem part_e_n (k : Nat) (ls : List (List UInt8)) (j : Nat) (s : EvS) : partE k 110 ls j s = { s with node := (nodeW (ls.getD j [])).getD noNode } := by simp [partE]
theorem part_e_m (k : Nat) (ls : List (List UInt8)) (j : Nat) (s : EvS) : partE k 109 ls j s = { s with node := { s.node with name := ls.getD j [] } } := by simp [partE]
set_option maxHeartbeats 8000000 in
set_option maxRecDepth 1000000 in
theorem part_any (base : Nat) (w0 w : World) (t ev g j k : Nat) (c : Int) (ls : List (List UInt8)) (no : Bool) (s : EvS)
    (hck : c = 97 ∨ c = 98 ∧ k ≠ 1 ∨ c = 112 ∧ k = 1 ∨ c = 110 ∧ k ≠ 1 ∨ c = 109 ∧ k ≠ 1)
    (hT : Tabs w0) (hb0 : Below w0.heap.size w0 w) (ht0 : w0.heap.size ≤ t) (hbase : base ≤ w.heap.size) (h : Tak w t g ls j no) (hf : few ls) (hl : ∀ l ∈ ls, l.length ≤ 4294967000) (h32 : ∀ l ∈ ls, (32 : UInt8) ∉ l) (hev : EvAt base w ev k s) :
    Calls Tryz.prog 23 #[.pointer (some ⟨t, 0, none⟩), .int .i32 c, .pointer (some ⟨ev, 0, none⟩)] w (PartPost base t ev g k c ls j no s w) := by
  obtain ⟨x, hx⟩ : ∃ x : Value, x = .iface 81 (.pointer (some ⟨ev, 1, none⟩)) := ⟨_, rfl⟩
  obtain ⟨y, hy⟩ : ∃ y : Value, y = .iface 81 (.pointer (some ⟨ev, 2, none⟩)) := ⟨_, rfl⟩
  obtain ⟨z, hcz, hz⟩ : ∃ z : Value, (c = 97 ∧ z = .iface 81 (.pointer (some ⟨ev, 1, none⟩)) ∨ (c = 98 ∧ k ≠ 1) ∧ z = .iface 81 (.pointer (some ⟨ev, 2, none⟩)) ∨ (c = 112 ∧ k = 1) ∧ z = .nilIface ∨ (c = 110 ∧ k ≠ 1) ∧ z = .nilIface ∨ (c = 109 ∧ k ≠ 1) ∧ z = .nilIface) ∧ ∀ w6, Ins w6 w.heap.size x y true true → (Instr.lookup 82 (.map (some w.heap.size)) (.int .i32 c) false).run Tryz.prog w6 = .ok z w6 := by
    rcases hck with rfl | ⟨rfl, hk⟩ | ⟨rfl, hk⟩ | ⟨rfl, hk⟩ | ⟨rfl, hk⟩
    · exact ⟨x, .inl ⟨rfl, hx⟩, fun w6 h => look_a h⟩
    · exact ⟨y, .inr (.inl ⟨⟨rfl, hk⟩, hy⟩), fun w6 h => look_b h⟩
    · exact ⟨_, .inr (.inr (.inl ⟨⟨rfl, hk⟩, rfl⟩)), fun w6 h => look_no (.inl rfl) h⟩
    · exact ⟨_, .inr (.inr (.inr (.inl ⟨⟨rfl, hk⟩, rfl⟩))), fun w6 h => look_no (.inr (.inl rfl)) h⟩
    · exact ⟨_, .inr (.inr (.inr (.inr ⟨⟨rfl, hk⟩, rfl⟩))), fun w6 h => look_no (.inr (.inr rfl)) h⟩
  have HCZ := Lib.hid hcz
  have HTK := Lib.hid h
  have HE := Lib.hid hev
  have HT := Lib.hid hT
  have HB0 := Lib.hid hb0
  have HT0 := Lib.hid ht0
  have HBASE := Lib.hid hbase
  have HL := Lib.hid hl
  have H32 := Lib.hid h32
  have HF := Lib.hid hf
  clear hcz hck h hev hT hb0 ht0 hbase hl h32 hf
  have hmm := @run_makeMap Tryz.prog
  have HX := Lib.hid hx
  have HY := Lib.hid hy
  have HZ := Lib.hid hz
  have HMM := Lib.hid hmm
  clear hx hy hz hmm
  go_enter Tryz.func23, Tryz.ntmps23
  go_upto_region 0 with fail
  refine' Se.wp_region_pass (fun w w' => w' = w) (LoB w.heap.size) 14 (by kernel_rfl) (by kernel_rfl) (by kernel_rfl) (by kernel_rfl) (by kernel_rfl) (by kernel_rfl)
    (fun w => LoB.refl _ _) (fun h k => LoB.trans h k) [(fun w3 => w3 = w.drew, 0), (fun w3 => w3 = w.drew ∨ Ins w3 w.heap.size x y false false ∨ Ins w3 w.heap.size x y false true, 5), (fun w3 => w3 = w.drew ∨ Ins w3 w.heap.size x y false false ∨ Ins w3 w.heap.size x y true false, 10)] [] ?_ ?_ (by simp) (fun vals => ?_)
  case refine'_2 =>
    simp only [List.forall_mem_cons]
    exact ⟨trivial, .inl trivial, .inl trivial, by simp⟩
  case refine'_3 =>
    simp only [List.forall_mem_cons]
    exact ⟨fun w1 w2 k h => by rw [k]; exact h, fun w1 w2 k h => by rw [k]; exact h, fun w1 w2 k h => by rw [k]; exact h, by simp⟩
  rotate_left
  simp only [List.take_succ_cons, List.take_zero, List.drop_succ_cons, List.drop_zero]
  (apply Se.pas_s (fun a b => a = w.drew ∧ b = a.alloc (.map #[] 0)) (fun v b => v = .map (some w.heap.size) ∧ w.heap.size < b.heap.size) (fun a b h => by rw [h.2]; exact fun hN => below_alloc' (Below.refl _ _) _ |>.mono hN) rfl (fun v w1 w2 h k => by rw [k]; exact h); (focus rfl); (focus (intro w6 hR hD hP K hK; replace hK := Lib.hid hK; have hp : w6 = w.drew := hP _ (List.mem_cons_self ..) (.inl rfl); replace hp := Lib.hid hp; have hmm := HMM.out; clear hR hD hP; go_simp; exact hK.out _ _ ⟨hp.out, rfl⟩ ⟨by rw [hp.out]; rfl, by rw [World.size_alloc, hp.out]; exact Nat.lt_succ_self _⟩)); simp only [Act.put, List.setIfInBounds_toArray, List.set_cons_zero, List.set_cons_succ, Nat.reduceAdd, List.cons_append, List.nil_append])
  iterate 3 (apply Se.pas_x (fun _ _ h => LoB.of_eq h) rfl; (focus rfl); (focus (intro w6 hR hD hP K hK; replace hK := Lib.hid hK; clear hR hD hP; go_simp; exact hK.out _ rfl)); simp only [Act.put, List.setIfInBounds_toArray, List.set_cons_zero, List.set_cons_succ, Nat.reduceAdd, List.cons_append, List.nil_append])
  (apply Se.pas_r (fun v _ => v = x) (fun _ _ h => LoB.of_eq h) rfl (fun v w1 w2 h k => h); (focus rfl); (focus (intro w6 hR hD hP K hK; replace hK := Lib.hid hK; clear hR hD hP; go_simp; exact hK.out _ _ rfl HX.out.symm)); simp only [Act.put, List.setIfInBounds_toArray, List.set_cons_zero, List.set_cons_succ, Nat.reduceAdd, List.cons_append, List.nil_append])
  (apply Se.pas_s (InsA w.heap.size x y) (fun _ b => Ins b w.heap.size x y true false ∨ Ins b w.heap.size x y true true) (fun a b h => InsA.lo h) rfl (fun v w1 w2 h k => by rw [k]; exact h); (focus rfl); (focus (intro w6 hR hD hP K hK; replace hK := Lib.hid hK; obtain ⟨e0, hlt⟩ : vals 0 = .map (some w.heap.size) ∧ w.heap.size < w6.heap.size := hD 0 (by kernel_rfl); have e4 : vals 4 = x := hD 4 (by kernel_rfl); have hp := hP _ (List.mem_cons_of_mem _ (List.mem_cons_self ..)) (.inl rfl); replace hp := Lib.hid ((hp : w6 = w.drew ∨ _).resolve_left (fun e => Nat.lt_irrefl _ (by rw [e] at hlt; exact hlt))); obtain ⟨w7, hrun, hS⟩ := ins_a hp.out; clear hR hD hP; simp only [e0, e4] at hK ⊢; go_simp; exact hK.out undef _ hS (by rcases hS.2.2 with h | h; exact .inl h.2; exact .inr h.2))); simp only [Act.put, List.setIfInBounds_toArray, List.set_cons_zero, List.set_cons_succ, Nat.reduceAdd, List.cons_append, List.nil_append])
  iterate 3 (apply Se.pas_x (fun _ _ h => LoB.of_eq h) rfl; (focus rfl); (focus (intro w6 hR hD hP K hK; replace hK := Lib.hid hK; clear hR hD hP; go_simp; exact hK.out _ rfl)); simp only [Act.put, List.setIfInBounds_toArray, List.set_cons_zero, List.set_cons_succ, Nat.reduceAdd, List.cons_append, List.nil_append])
  (apply Se.pas_r (fun v _ => v = y) (fun _ _ h => LoB.of_eq h) rfl (fun v w1 w2 h k => h); (focus rfl); (focus (intro w6 hR hD hP K hK; replace hK := Lib.hid hK; clear hR hD hP; go_simp; exact hK.out _ _ rfl HY.out.symm)); simp only [Act.put, List.setIfInBounds_toArray, List.set_cons_zero, List.set_cons_succ, Nat.reduceAdd, List.cons_append, List.nil_append])
  (apply Se.pas_s (InsB w.heap.size x y) (fun _ b => Ins b w.heap.size x y false true ∨ Ins b w.heap.size x y true true) (fun a b h => InsB.lo h) rfl (fun v w1 w2 h k => by rw [k]; exact h); (focus rfl); (focus (intro w6 hR hD hP K hK; replace hK := Lib.hid hK; obtain ⟨e0, hlt⟩ : vals 0 = .map (some w.heap.size) ∧ w.heap.size < w6.heap.size := hD 0 (by kernel_rfl); have e4 : vals 9 = y := hD 9 (by kernel_rfl); have hp := hP _ (List.mem_cons_of_mem _ (List.mem_cons_of_mem _ (List.mem_cons_self ..))) (.inl rfl); replace hp := Lib.hid ((hp : w6 = w.drew ∨ _).resolve_left (fun e => Nat.lt_irrefl _ (by rw [e] at hlt; exact hlt))); obtain ⟨w7, hrun, hS⟩ := ins_b hp.out; clear hR hD hP; simp only [e0, e4] at hK ⊢; go_simp; exact hK.out undef _ hS (by rcases hS.2.2 with h | h; exact .inl h.2; exact .inr h.2))); simp only [Act.put, List.setIfInBounds_toArray, List.set_cons_zero, List.set_cons_succ, Nat.reduceAdd, List.cons_append, List.nil_append])
  (apply Se.pas_r (fun v _ => v = .map (some w.heap.size)) (fun _ _ h => LoB.of_eq h) rfl (fun v w1 w2 h k => h); (focus rfl); (focus (intro w6 hR hD hP K hK; replace hK := Lib.hid hK; obtain ⟨e0, hlt⟩ : vals 0 = .map (some w.heap.size) ∧ w.heap.size < w6.heap.size := hD 0 (by kernel_rfl); simp only [e0] at hK ⊢; clear hR hD hP e0; go_simp; exact hK.out _ _ rfl rfl)); simp only [Act.put, List.setIfInBounds_toArray, List.set_cons_zero, List.set_cons_succ, Nat.reduceAdd, List.cons_append, List.nil_append])
  (apply Se.pas_x (fun _ _ h => LoB.of_eq h) rfl; (focus rfl); (focus (intro w6 hR hD hP K hK; replace hK := Lib.hid hK; clear hR hD hP; go_simp; exact hK.out _ rfl)); simp only [Act.put, List.setIfInBounds_toArray, List.set_cons_zero, List.set_cons_succ, Nat.reduceAdd, List.cons_append, List.nil_append])
  (apply Se.pas_x (fun _ _ h => LoB.of_eq h) rfl; (focus rfl); (focus (intro w6 hR hD hP K hK; replace hK := Lib.hid hK; have h5 : Ins w6 w.heap.size x y true false ∨ Ins w6 w.heap.size x y true true := hD 5 (by kernel_rfl); have h10 : Ins w6 w.heap.size x y false true ∨ Ins w6 w.heap.size x y true true := hD 10 (by kernel_rfl); have e11 : vals 11 = .map (some w.heap.size) := hD 11 (by kernel_rfl); have hl := HZ.out w6 (ins_both h5 h10); simp only [e11] at hK ⊢; clear hR hD hP h5 h10 e11; go_simp; exact hK.out _ rfl)); simp only [Act.put, List.setIfInBounds_toArray, List.set_cons_zero, List.set_cons_succ, Nat.reduceAdd, List.cons_append, List.nil_append])
  refine Se.pas_ends ?_ ?_ fun w6 hR hp _ => ?_
  · simp only [Se.AllK, true_and, and_true, true_or, or_true, Nat.reduceAdd]
    exact ⟨⟨.inr (.inr fun _ _ _ _ _ h => h), .inr (.inl (by kernel_rfl)), .inr (.inr fun _ _ _ _ _ h => h), .inr (.inl (by kernel_rfl)), .inr (.inr fun _ _ _ _ _ h => h)⟩,
      ⟨.inr (.inr fun v a b _ hs h => ⟨h.1, by rw [hs.2.1]; exact h.2⟩), .inr (.inr fun _ _ _ _ _ h => h), .inr (.inr fun _ _ _ _ _ h => h), .inr (.inr fun v a b _ hs h => keep_b h hs), .inr (.inr fun _ _ _ _ _ h => h)⟩,
      .inr (.inr fun v a b _ hs h => ⟨h.1, by rw [hs.2.1]; exact h.2⟩), .inr (.inr fun _ _ _ _ _ h => h), .inr (.inr fun v a b _ hs h => keep_a h hs), .inr (.inr fun _ _ _ _ _ h => h), .inr (.inr fun _ _ _ _ _ h => h)⟩
  · simp only [Se.AllK, true_and, and_true, Nat.reduceAdd]
    refine ⟨fun e he => ?_, fun e he => ?_, fun e he => ?_⟩
    all_goals
      simp only [List.mem_cons, List.not_mem_nil, or_false] at he
      rcases he with rfl | rfl | rfl
    · exact .inl rfl
    · exact .inr fun a b _ hs _ => .inr (.inl (made_ins hs))
    · exact .inr fun a b _ hs _ => .inr (.inl (made_ins hs))
    · exact .inr fun a b _ hs h => (not_new h (insA_no hs)).elim
    · exact .inl rfl
    · exact .inr fun a b _ hs h => by
        rcases h with h | h
        · exact (not_new h (insA_no hs)).elim
        · exact .inr (free_b h hs)
    · exact .inr fun a b _ hs h => (not_new h (insB_no hs)).elim
    · exact .inr fun a b _ hs h => by
        rcases h with h | h
        · exact (not_new h (insB_no hs)).elim
        · exact .inr (free_a h hs)
    · exact .inl rfl
  have hb6 : Below w.heap.size w w6 := (Below.refl w.heap.size w).drew.trans (hR (Nat.le_refl _))
  have H6 := Lib.hid (HTK.out.below hb6)
  have HE6 := Lib.hid (HE.out.below hb6)
  have HB6 := Lib.hid hb6
  have HB06 := Lib.hid (below_call HB0.out (hb6.mono (Nat.le_refl _)))
  have HZT := Lib.hid H6.out.1
  clear hR hp hb6
  have hkc : ∃ (vp u x : Value), w6.heap[ev]? = some (.cells #[.int .i64 k, .int .i64 s.a, .int .i64 s.b, .int .i64 s.id, vp, .string (str s.node.name), .int .i64 s.node.cpu, .int .i64 s.node.mem, u, x, .bool s.node.closed] 33 (0, 0)) := by
    obtain ⟨vp, u, x, h1, _⟩ := HE6.out
    exact ⟨vp, u, x, h1⟩
  obtain ⟨vp6, u6, x6, hev6⟩ := hkc
  have e0 := cell_of_block hev6 0 _ rfl
  have HEV6 := Lib.hid hev6
  clear hev6
  rcases HCZ.out with ⟨rfl, rfl⟩ | ⟨⟨rfl, hk⟩, rfl⟩ | ⟨⟨rfl, hk⟩, rfl⟩ | ⟨⟨rfl, hk⟩, rfl⟩ | ⟨⟨rfl, hk⟩, rfl⟩
  · by_cases hk1 : k = 1
    · subst hk1
      have hta : ∀ w, (Instr.typeAssert (.iface 81 (.pointer (some ⟨ev, 3, none⟩))) 20 81 true).run Tryz.prog w = .ok (.tuple #[.pointer (some ⟨ev, 3, none⟩), .bool true]) w := fun _ => by kernel_rfl
      go_wp2_with fail
      refine (tnum_any w6 t g j ls no H6.out HF.out).mono ?_
      rintro e w7 ⟨rfl, h7, g7⟩
      obtain ⟨cz, az, hzt, _⟩ := HZT.out
      have hE7 := HE6.out.gbt hzt g7
      obtain ⟨vp, u, x, hv7, _⟩ := id hE7
      have cq := cell_of_block hv7 3 _ rfl
      have fr := free_of_block hv7 3
      have H7 := Lib.hid h7
      have HE7 := Lib.hid hE7
      have HV7 := Lib.hid hv7
      have HG7 := Lib.hid ((Gb2.of_below HB6.out).trans (Gb2.left g7) : Gb2 t ev w w7)
      clear h7 g7 hzt hE7 hv7
      go_wp2
      refine bodyPost_ret (results_none rfl _ _ _) rfl ?_
      refine ⟨_, rfl, ?_, HE7.out.setI _, fun _ => by simp [partE], HG7.out.trans (Gb2.right (Gb.set _ _ _ _))⟩
      rw [ok_a]
      exact H7.out.gbe HV7.out (Gb.set _ _ _ _)
    · have bk : ((k : Int) == 1) = false := beq_eq_false_iff_ne.2 (by omega)
      have hta : ∀ w, (Instr.typeAssert (.iface 81 (.pointer (some ⟨ev, 1, none⟩))) 20 81 true).run Tryz.prog w = .ok (.tuple #[.pointer (some ⟨ev, 1, none⟩), .bool true]) w := fun _ => by kernel_rfl
      go_wp2_with fail
      refine (tnum_any w6 t g j ls no H6.out HF.out).mono ?_
      rintro e w7 ⟨rfl, h7, g7⟩
      obtain ⟨cz, az, hzt, _⟩ := HZT.out
      have hE7 := HE6.out.gbt hzt g7
      obtain ⟨vp, u, x, hv7, _⟩ := id hE7
      have cq := cell_of_block hv7 1 _ rfl
      have fr := free_of_block hv7 1
      have H7 := Lib.hid h7
      have HE7 := Lib.hid hE7
      have HV7 := Lib.hid hv7
      have HG7 := Lib.hid ((Gb2.of_below HB6.out).trans (Gb2.left g7) : Gb2 t ev w w7)
      clear h7 g7 hzt hE7 hv7
      go_wp2
      refine bodyPost_ret (results_none rfl _ _ _) rfl ?_
      refine ⟨_, rfl, ?_, HE7.out.setA _, fun _ => by simp [partE, hk1], HG7.out.trans (Gb2.right (Gb.set _ _ _ _))⟩
      rw [ok_a]
      exact H7.out.gbe HV7.out (Gb.set _ _ _ _)
  · have bk : ((k : Int) == 1) = false := beq_eq_false_iff_ne.2 (by omega)
    have hta : ∀ w, (Instr.typeAssert (.iface 81 (.pointer (some ⟨ev, 2, none⟩))) 20 81 true).run Tryz.prog w = .ok (.tuple #[.pointer (some ⟨ev, 2, none⟩), .bool true]) w := fun _ => by kernel_rfl
    go_wp2_with fail
    refine (tnum_any w6 t g j ls no H6.out HF.out).mono ?_
    rintro e w7 ⟨rfl, h7, g7⟩
    obtain ⟨cz, az, hzt, _⟩ := HZT.out
    have hE7 := HE6.out.gbt hzt g7
    obtain ⟨vp, u, x, hv7, _⟩ := id hE7
    have cq := cell_of_block hv7 2 _ rfl
    have fr := free_of_block hv7 2
    have H7 := Lib.hid h7
    have HE7 := Lib.hid hE7
    have HV7 := Lib.hid hv7
    have HG7 := Lib.hid ((Gb2.of_below HB6.out).trans (Gb2.left g7) : Gb2 t ev w w7)
    clear h7 g7 hzt hE7 hv7
    go_wp2
    refine bodyPost_ret (results_none rfl _ _ _) rfl ?_
    refine ⟨_, rfl, ?_, HE7.out.setB _, fun _ => by simp [partE], HG7.out.trans (Gb2.right (Gb.set _ _ _ _))⟩
    rw [ok_b]
    exact H7.out.gbe HV7.out (Gb.set _ _ _ _)
  · subst hk
    have hta : ∀ w, (Instr.typeAssert .nilIface 20 81 true).run Tryz.prog w = .ok (.tuple #[.pointer none, .bool false]) w := fun _ => by kernel_rfl
    go_wp2_with fail
    refine (ppods_any w0 w6 t g j ls no HT.out HB06.out HT0.out H6.out HF.out HL.out).mono ?_
    rintro e w7 ⟨v, rfl, hp7, h7, g7⟩
    obtain ⟨cz, az, hzt, _⟩ := HZT.out
    have hE7 := HE6.out.gbt hzt g7
    obtain ⟨vp, u, x, hv7, hvp7, _⟩ := id hE7
    obtain ⟨ca, hca, _⟩ := id hvp7
    obtain ⟨cb, hcb, _⟩ := id hp7
    obtain ⟨aa, la, ka, rfl⟩ := own_slice hca
    obtain ⟨ab, lb, kb, rfl⟩ := own_slice hcb
    have cq := cell_of_block hv7 4 _ rfl
    have fr := free_of_block hv7 4
    have H7 := Lib.hid h7
    have HE7 := Lib.hid hE7
    have HV7 := Lib.hid hv7
    have HP7 := Lib.hid (hp7.base (Nat.le_trans HBASE.out HB6.out.size))
    have HG7 := Lib.hid ((Gb2.of_below HB6.out).trans (Gb2.left g7) : Gb2 t ev w w7)
    clear h7 g7 hzt hE7 hv7 hp7 hvp7 hca hcb
    go_wp2
    refine bodyPost_ret (results_none rfl _ _ _) rfl ?_
    refine ⟨_, rfl, ?_, HE7.out.setP HP7.out, fun _ => by simp [partE], HG7.out.trans (Gb2.right (Gb.set _ _ _ _))⟩
    rw [ok_p, ← not_any]
    exact H7.out.gbe HV7.out (Gb.set _ _ _ _)
  · have bk : ((k : Int) == 1) = false := beq_eq_false_iff_ne.2 (by omega)
    have hta : ∀ w, (Instr.typeAssert .nilIface 20 81 true).run Tryz.prog w = .ok (.tuple #[.pointer none, .bool false]) w := fun _ => by kernel_rfl
    go_wp2_with fail
    refine (take_any w6 t g j ls no H6.out (by have := HF.out.1; omega)).mono ?_
    rintro e w7 ⟨rfl, h7, g7⟩
    obtain ⟨cz, az, hzt, _⟩ := HZT.out
    have hE7 := HE6.out.gbt hzt g7
    have hne : ev ≠ t := cells_ne HEV6.out hzt (by decide)
    have hB7 : Below w0.heap.size w0 w7 := Gb.below HB06.out g7 HT0.out HB06.out.size
    have HG7 := Lib.hid ((Gb2.of_below HB6.out).trans (Gb2.left g7) : Gb2 t ev w w7)
    obtain ⟨nf, hnf⟩ : ∃ b, (no || decide (ls.length ≤ j)) = b := ⟨_, rfl⟩
    rw [hnf] at h7
    have HNF := Lib.hid hnf
    have hwl : (ls.getD j []).length ≤ 4294967000 ∧ (32 : UInt8) ∉ ls.getD j [] := by
      by_cases hj : j < ls.length
      · rw [show ls.getD j [] = ls[j] by simp [List.getD_eq_getElem?_getD, hj]]
        exact ⟨HL.out _ (List.getElem_mem hj), H32.out _ (List.getElem_mem hj)⟩
      · rw [show ls.getD j [] = [] by simp [List.getD_eq_getElem?_getD, Nat.le_of_not_lt hj]]
        exact ⟨Nat.zero_le _, by simp⟩
    obtain ⟨wd, hwd⟩ : ∃ x, ls.getD j [] = x := ⟨_, rfl⟩
    rw [hwd] at hwl
    rw [hwd]
    have HWD := Lib.hid hwd
    have H7 := Lib.hid h7
    have HE7 := Lib.hid hE7
    have HB7 := Lib.hid hB7
    clear h7 g7 hzt hE7 hB7 hnf hwd
    go_wp2_with fail
    refine (pnode_any wd w7 (HT.out.below HB7.out) hwl.1 hwl.2).mono ?_
    rintro e w8 ⟨v, n, rfl, ⟨u, x, rfl, hu, hx⟩, hnm, hb8⟩
    have hu' := own_base hu (Nat.le_trans HBASE.out HG7.out.size)
    have hx' := own_base hx (Nat.le_trans HBASE.out HG7.out.size)
    obtain ⟨au, lu, cu, rfl⟩ := own_slice hu
    obtain ⟨ax, lx, cx, rfl⟩ := own_slice hx
    have HU := Lib.hid hu'
    have HXX := Lib.hid hx'
    have HNM := Lib.hid hnm
    have h8 := H7.out.below hb8
    have hE8 := HE7.out.below hb8
    obtain ⟨vp, u0, x0, hv8, -⟩ := id hE8
    have HG8 := Lib.hid (HG7.out.trans (Gb2.of_below hb8))
    have H8 := Lib.hid h8
    have HE8 := Lib.hid hE8
    have hev8 : ev < w8.heap.size := hE8.lt
    obtain ⟨⟨ct, at', ht8, -⟩, -⟩ := id h8
    have ht8s : t < w8.heap.size := (Array.getElem?_eq_some_iff.1 ht8).1
    obtain ⟨ok, hok⟩ : ∃ b, (nodeW wd).isSome = b := ⟨_, rfl⟩
    rw [hok]
    have HOK := Lib.hid hok
    obtain ⟨zn, hzn⟩ : ∃ z, str n.name = z := ⟨_, rfl⟩
    rw [hzn]
    have HZN := Lib.hid hzn
    obtain ⟨n2, hn2⟩ : ∃ z, n.cpu = z := ⟨_, rfl⟩
    obtain ⟨n3, hn3⟩ : ∃ z, n.mem = z := ⟨_, rfl⟩
    obtain ⟨fl, hfl⟩ : ∃ z, n.closed = z := ⟨_, rfl⟩
    rw [hn2, hn3, hfl]
    have HN2 := Lib.hid hn2
    have HN3 := Lib.hid hn3
    have HFL := Lib.hid hfl
    clear hu hx hu' hx' hnm hE8 h8 hb8 hok hzn hn2 hn3 hfl hwl
    have n1 : ¬ ev = t := hne
    have n2' : ¬ t = ev := fun e => hne e.symm
    have n3' : ¬ w8.heap.size = ev := by omega
    have n4 : ¬ w8.heap.size = t := by omega
    have n5 : ¬ ev = w8.heap.size := by omega
    have n6 : ¬ t = w8.heap.size := by omega
    have bt := block_below ht8 (below_alloc' (Below.refl w8.heap.size w8) (.cells #[.string zn, .int .i64 n2, .int .i64 n3, .slice au lu cu, .slice ax lx cx, .bool fl] 31))
    have be := block_below hv8 (below_alloc' (Below.refl w8.heap.size w8) (.cells #[.string zn, .int .i64 n2, .int .i64 n3, .slice au lu cu, .slice ax lx cx, .bool fl] 31))
    have bn : (w8.alloc (.cells #[.string zn, .int .i64 n2, .int .i64 n3, .slice au lu cu, .slice ax lx cx, .bool fl] 31)).heap[w8.heap.size]? = some (.cells #[.string zn, .int .i64 n2, .int .i64 n3, .slice au lu cu, .slice ax lx cx, .bool fl] 31 (0, 0)) := alloc_at _ _
    have T9 := Lib.hid (H8.out.below (below_alloc' (Below.refl w8.heap.size w8) (.cells #[.string zn, .int .i64 n2, .int .i64 n3, .slice au lu cu, .slice ax lx cx, .bool fl] 31)))
    have E9 := Lib.hid (HE8.out.below (below_alloc' (Below.refl w8.heap.size w8) (.cells #[.string zn, .int .i64 n2, .int .i64 n3, .slice au lu cu, .slice ax lx cx, .bool fl] 31)))
    have U9 := Lib.hid (own_below HU.out (below_alloc' (Below.refl w8.heap.size w8) (.cells #[.string zn, .int .i64 n2, .int .i64 n3, .slice au lu cu, .slice ax lx cx, .bool fl] 31)))
    have X9 := Lib.hid (own_below HXX.out (below_alloc' (Below.refl w8.heap.size w8) (.cells #[.string zn, .int .i64 n2, .int .i64 n3, .slice au lu cu, .slice ax lx cx, .bool fl] 31)))
    have HG9 := Lib.hid (HG8.out.trans (Gb2.of_below (below_alloc' (Below.refl w8.heap.size w8) (.cells #[.string zn, .int .i64 n2, .int .i64 n3, .slice au lu cu, .slice ax lx cx, .bool fl] 31))))
    go_upto_region 11 with fail
    generalize World.alloc w8 _ = w9 at bt be bn T9 E9 U9 X9 HG9 ⊢
    have fe := fun j => free_of_block be j
    have ft := fun j => free_of_block bt j
    have t1 := cell_of_block bt 1 _ rfl
    have e5 := cell_of_block be 5 _ rfl
    have e6 := cell_of_block be 6 _ rfl
    have e7 := cell_of_block be 7 _ rfl
    have e8 := cell_of_block be 8 _ rfl
    have e9 := cell_of_block be 9 _ rfl
    have e10 := cell_of_block be 10 _ rfl
    have m0 := cell_of_block bn 0 _ rfl
    have m1 := cell_of_block bn 1 _ rfl
    have m2 := cell_of_block bn 2 _ rfl
    have m3 := cell_of_block bn 3 _ rfl
    have m4 := cell_of_block bn 4 _ rfl
    have m5 := cell_of_block bn 5 _ rfl
    clear bt be bn ht8 hv8
    cases nf
    · go_region
      go_wp2
      obtain ⟨W, hW⟩ : ∃ W, (w9.setCells ev 5 [.string zn, .int .i64 n2, .int .i64 n3, .slice au lu cu, .slice ax lx cx, .bool fl]).setCell ⟨t, 1, none⟩ (.bool (!ok)) = W := ⟨_, rfl⟩
      obtain ⟨q1, q2, q3⟩ := node_end T9.out E9.out U9.out X9.out (!ok) HZN.out HN2.out HN3.out HFL.out hW
      refine bp_at (congrArg World.drew hW) ?_
      refine bodyPost_ret (results_none rfl _ _ _) rfl ⟨_, rfl, ?_, q2, fun hok => ?_, HG9.out.trans q3⟩
      · rw [ok_n, flag_n, HNF.out, HWD.out, HOK.out]
        exact q1
      · rw [ok_n, HWD.out] at hok
        obtain ⟨m, hm⟩ := Option.isSome_iff_exists.1 (Bool.and_eq_true_iff.1 hok).1
        rw [part_e_n, HWD.out, hm, HNM.out m hm]
        rfl
    · go_region
      go_wp2
      obtain ⟨W, hW⟩ : ∃ W, (w9.setCells ev 5 [.string zn, .int .i64 n2, .int .i64 n3, .slice au lu cu, .slice ax lx cx, .bool fl]).setCell ⟨t, 1, none⟩ (.bool true) = W := ⟨_, rfl⟩
      obtain ⟨q1, q2, q3⟩ := node_end T9.out E9.out U9.out X9.out true HZN.out HN2.out HN3.out HFL.out hW
      refine bp_at (congrArg World.drew hW) ?_
      refine bodyPost_ret (results_none rfl _ _ _) rfl ⟨_, rfl, ?_, q2, fun hok => ?_, HG9.out.trans q3⟩
      · rw [ok_n, flag_n, HNF.out, HWD.out, HOK.out]
        exact q1
      · rw [ok_n, HWD.out] at hok
        obtain ⟨m, hm⟩ := Option.isSome_iff_exists.1 (Bool.and_eq_true_iff.1 hok).1
        rw [part_e_n, HWD.out, hm, HNM.out m hm]
        rfl
  · have bk : ((k : Int) == 1) = false := beq_eq_false_iff_ne.2 (by omega)
    have hta : ∀ w, (Instr.typeAssert .nilIface 20 81 true).run Tryz.prog w = .ok (.tuple #[.pointer none, .bool false]) w := fun _ => by kernel_rfl
    go_wp2_with fail
    refine (take_any w6 t g j ls no H6.out (by have := HF.out.1; omega)).mono ?_
    rintro e w7 ⟨rfl, h7, g7⟩
    obtain ⟨cz, az, hzt, _⟩ := HZT.out
    have hE7 := HE6.out.gbt hzt g7
    have hne : ev ≠ t := cells_ne HEV6.out hzt (by decide)
    have hB7 : Below w0.heap.size w0 w7 := Gb.below HB06.out g7 HT0.out HB06.out.size
    have HG7 := Lib.hid ((Gb2.of_below HB6.out).trans (Gb2.left g7) : Gb2 t ev w w7)
    obtain ⟨nf, hnf⟩ : ∃ b, (no || decide (ls.length ≤ j)) = b := ⟨_, rfl⟩
    rw [hnf] at h7
    have HNF := Lib.hid hnf
    have hwl : (ls.getD j []).length ≤ 4294967000 ∧ (32 : UInt8) ∉ ls.getD j [] := by
      by_cases hj : j < ls.length
      · rw [show ls.getD j [] = ls[j] by simp [List.getD_eq_getElem?_getD, hj]]
        exact ⟨HL.out _ (List.getElem_mem hj), H32.out _ (List.getElem_mem hj)⟩
      · rw [show ls.getD j [] = [] by simp [List.getD_eq_getElem?_getD, Nat.le_of_not_lt hj]]
        exact ⟨Nat.zero_le _, by simp⟩
    obtain ⟨wd, hwd⟩ : ∃ x, ls.getD j [] = x := ⟨_, rfl⟩
    rw [hwd] at hwl
    rw [hwd]
    have HWD := Lib.hid hwd
    have H7 := Lib.hid h7
    have HE7 := Lib.hid hE7
    have HB7 := Lib.hid hB7
    clear h7 g7 hzt hE7 hB7 hnf hwd
    obtain ⟨zw, hzw⟩ : ∃ z, str wd = z := ⟨_, rfl⟩
    have hzs : zw.size ≤ maxLen := by rw [← hzw, str_size]; unfold maxLen; omega
    have HZW := Lib.hid hzw
    have HZS := Lib.hid hzs
    rw [hzw]
    obtain ⟨vp, u0, x0, hv7, -⟩ := id HE7.out
    have e5 := cell_of_block hv7 5 _ rfl
    have fe := free_of_block hv7 5
    have hE8 := HE7.out.setM wd
    rw [hzw] at hE8
    obtain ⟨vq, uq, xq, hv8, -⟩ := id hE8
    have p5 := cell_of_block hv8 5 _ rfl
    have h8 := H7.out.gbe hv7 (Gb.set w7 ev 5 (.string zw))
    have HE8 := Lib.hid hE8
    have H8 := Lib.hid h8
    have HG8 := Lib.hid (HG7.out.trans (Gb2.right (Gb.set w7 ev 5 (.string zw))))
    have t1 := h8.no.1
    have ft := h8.no.2
    clear hv7 hv8 hE8 h8 hzw hzs hwl
    cases nf
    · go_wp2_with fail
      refine (name_any (str wd) (by rw [HZW.out]; exact HZS.out) _).mono ?_
      rintro e w9 ⟨rfl, hb9⟩
      have H9 := Lib.hid (H8.out.below hb9)
      have HE9 := Lib.hid (HE8.out.below hb9)
      have HG9 := Lib.hid (HG8.out.trans (Gb2.of_below hb9))
      have t1' := H9.out.no.1
      have ft' := H9.out.no.2
      clear hb9 t1 ft e5 fe p5
      go_wp2
      refine bodyPost_ret (results_none rfl _ _ _) rfl ?_
      obtain ⟨⟨ct, at', ht9, -⟩, -⟩ := id H9.out
      refine ⟨_, rfl, ?_, HE9.out.gbt ht9 (Gb.set _ _ _ _), fun hok => by rw [part_e_m, HWD.out], HG9.out.trans (Gb2.left (Gb.set _ _ _ _))⟩
      rw [ok_m, flag_n, HNF.out, HWD.out]
      exact H9.out.set1 _
    · go_wp2
      refine bodyPost_ret (results_none rfl _ _ _) rfl ?_
      obtain ⟨⟨ct, at', ht9, -⟩, -⟩ := id H8.out
      refine ⟨_, rfl, ?_, HE8.out.gbt ht9 (Gb.set _ _ _ _), fun hok => by rw [part_e_m, HWD.out], HG8.out.trans (Gb2.left (Gb.set _ _ _ _))⟩
      rw [ok_m, flag_n, HNF.out]
      exact H8.out.set1 _
end Go.Proofs.YtikamehjeaoilaaGreatDoor
